/-
  Layer 20 (past): texts joined by tools/join.py: XYH, XYS, XYR, XYM, XYG, XYB, XYX, XYU.
-/
import Derived.Test.YtnolbabpkhdpmaaGreatBase
import Derived.Shelf.Sort.Plain
import Derived.Ground.Names2Prog
import Derived.Shelf.Slices.CompactI
import Derived.Shelf.Slices.In.SortNone
import Derived.Test.YtnolbabpkhdpmaaGreatN1
import Derived.Lib.OwnBridge
import Derived.Test.YtnolbabpkhdpmaaGreatN2
/- slices.Sort and slices.Compact at []int: the shelf's contracts, laid at this program. -/
namespace Go.Proofs.YtnolbabpkhdpmaaGreat
open Go.Shelf

def lays189_ren : Go.Shelf.Ren := ⟨fun | 189 => 40 | 125 => 63 | 257 => 62 | 128 => 87 | 129 => 88 | 294 => 78 | 295 => 79 | 296 => 80 | 297 => 81 | 298 => 82 | 299 => 83 | 216 => 84 | 300 => 85 | 301 => 86 | 328 => 98 | 329 => 99 | 330 => 100 | 331 => 101 | 332 => 102 | 215 => 103 | 343 => 109 | n => n, fun | 28 => 22 | 3 => 3 | 46 => 95 | 0 => 0 | 51 => 113 | 53 => 115 | 4 => 4 | 183 => 107 | 182 => 106 | 131 => 33 | 5 => 5 | 9 => 9 | 218 => 129 | 222 => 133 | 228 => 138 | 229 => 139 | n => n, fun | n => n⟩
theorem lays189 : Go.Proofs.Lays.n189 Tryz.prog lays189_ren := {
  mixed := by kernel_rfl
  f125 := Tryz.func63.trans (congrArg some (by kernel_rfl))
  f128 := Tryz.func87.trans (congrArg some (by kernel_rfl))
  f129 := Tryz.func88.trans (congrArg some (by kernel_rfl))
  f189 := Tryz.func40.trans (congrArg some (by kernel_rfl))
  f215 := Tryz.func103.trans (congrArg some (by kernel_rfl))
  f216 := Tryz.func84.trans (congrArg some (by kernel_rfl))
  f257 := Tryz.func62.trans (congrArg some (by kernel_rfl))
  f294 := Tryz.func78.trans (congrArg some (by kernel_rfl))
  f295 := Tryz.func79.trans (congrArg some (by kernel_rfl))
  f296 := Tryz.func80.trans (congrArg some (by kernel_rfl))
  f297 := Tryz.func81.trans (congrArg some (by kernel_rfl))
  f298 := Tryz.func82.trans (congrArg some (by kernel_rfl))
  f299 := Tryz.func83.trans (congrArg some (by kernel_rfl))
  f300 := Tryz.func85.trans (congrArg some (by kernel_rfl))
  f301 := Tryz.func86.trans (congrArg some (by kernel_rfl))
  f328 := Tryz.func98.trans (congrArg some (by kernel_rfl))
  f329 := Tryz.func99.trans (congrArg some (by kernel_rfl))
  f330 := Tryz.func100.trans (congrArg some (by kernel_rfl))
  f331 := Tryz.func101.trans (congrArg some (by kernel_rfl))
  f332 := Tryz.func102.trans (congrArg some (by kernel_rfl))
  f343 := Tryz.func109.trans (congrArg some (by kernel_rfl))
  t0 := Tryz.underlying0
  a0 := Tryz.isAgg0
  z0 := Tryz.sizeOf0
  v0 := Tryz.zeroValue0
  t3 := Tryz.underlying3
  a3 := Tryz.isAgg3
  z3 := Tryz.sizeOf3
  v3 := Tryz.zeroValue3
  t4 := Tryz.underlying4
  a4 := Tryz.isAgg4
  z4 := Tryz.sizeOf4
  v4 := Tryz.zeroValue4
  t5 := Tryz.underlying5
  a5 := Tryz.isAgg5
  z5 := Tryz.sizeOf5
  v5 := Tryz.zeroValue5
  t9 := Tryz.underlying9
  a9 := Tryz.isAgg9
  z9 := Tryz.sizeOf9
  v9 := Tryz.zeroValue9
  t28 := Tryz.underlying22
  a28 := Tryz.isAgg22
  z28 := Tryz.sizeOf22
  v28 := Tryz.zeroValue22
  t46 := Tryz.underlying95
  a46 := Tryz.isAgg95
  z46 := Tryz.sizeOf95
  v46 := Tryz.zeroValue95
  t51 := Tryz.underlying113
  a51 := Tryz.isAgg113
  z51 := Tryz.sizeOf113
  v51 := Tryz.zeroValue113
  t53 := Tryz.underlying115
  a53 := Tryz.isAgg115
  z53 := Tryz.sizeOf115
  v53 := Tryz.zeroValue115
  t131 := Tryz.underlying33
  a131 := Tryz.isAgg33
  z131 := Tryz.sizeOf33
  v131 := Tryz.zeroValue33
  t182 := Tryz.underlying106
  a182 := Tryz.isAgg106
  z182 := Tryz.sizeOf106
  v182 := Tryz.zeroValue106
  t183 := Tryz.underlying107
  a183 := Tryz.isAgg107
  z183 := Tryz.sizeOf107
  v183 := Tryz.zeroValue107
  t218 := Tryz.underlying129
  a218 := Tryz.isAgg129
  z218 := Tryz.sizeOf129
  v218 := Tryz.zeroValue129
  t222 := Tryz.underlying133
  a222 := Tryz.isAgg133
  z222 := Tryz.sizeOf133
  v222 := Tryz.zeroValue133
  t228 := Tryz.underlying138
  a228 := Tryz.isAgg138
  z228 := Tryz.sizeOf138
  v228 := Tryz.zeroValue138
  t229 := Tryz.underlying139
  a229 := Tryz.isAgg139
  z229 := Tryz.sizeOf139
  v229 := Tryz.zeroValue139 }
open Go.RowKit Go.Lib Go.Sort in
theorem slices_Sort_int (blk off cap : Nat) (zs : List Int) (w : World) (hH : Holds (Value.int .i64) w blk off zs.toArray) (hblk : blk < w.heap.size) (hsz : zs.length < 4611686018427387904) :
    Calls Tryz.prog 40 #[.slice (some ⟨blk, off, none⟩) zs.length cap] w fun e w' =>
      e = .returned (.tuple #[]) ∧ ∃ n os, w' = grow (putRow (Value.int .i64) (Sort.ahead w n) blk off (zs.mergeSort fun x y => decide (x ≤ y)).toArray) os := Any.slices_Sort_int lays189 blk off cap zs w hH hblk hsz
def laysNm220_ren : Go.Shelf.Ren := ⟨fun | 20 => 42 | n => n, fun | 22 => 22 | 3 => 3 | 4 => 4 | 0 => 0 | n => n, fun | n => n⟩
theorem laysNm220 : Go.Proofs.Lays2.n20 Tryz.prog laysNm220_ren := {
  mixed := by kernel_rfl
  f20 := Tryz.func42.trans (congrArg some (by kernel_rfl))
  t0 := Tryz.underlying0
  a0 := Tryz.isAgg0
  z0 := Tryz.sizeOf0
  v0 := Tryz.zeroValue0
  t3 := Tryz.underlying3
  a3 := Tryz.isAgg3
  z3 := Tryz.sizeOf3
  v3 := Tryz.zeroValue3
  t4 := Tryz.underlying4
  a4 := Tryz.isAgg4
  z4 := Tryz.sizeOf4
  v4 := Tryz.zeroValue4
  t22 := Tryz.underlying22
  a22 := Tryz.isAgg22
  z22 := Tryz.sizeOf22
  v22 := Tryz.zeroValue22
  i3 := by kernel_rfl }
open Go.RowKit Go.Lib Go.Sort in
theorem slices_Compact_int (blk off cap : Nat) (zs : List Int) (w : World) (hH : Holds (Value.int .i64) w blk off zs.toArray) (hsz : zs.length ≤ 9223372036854775807) (hcap : zs.length ≤ cap) :
    Calls Tryz.prog 42 #[.slice (some ⟨blk, off, none⟩) zs.length cap] w fun e w' => e = .returned (.slice (some ⟨blk, off, none⟩) (Lib.compact zs).length cap) ∧ ∃ q, w' = putRow (Value.int .i64) (Sort.ahead w q) blk off (Lib.compact zs ++ List.replicate (zs.length - (Lib.compact zs).length) 0).toArray := Any.slices_Compact_int laysNm220 blk off cap zs w hH hsz hcap
open Go.RowKit Go.Lib Go.Sort in
theorem slices_Compact_int_empty (a : Option Addr) (cap : Nat) (w : World) :
    Calls Tryz.prog 42 #[.slice a 0 cap] w fun e w' => e = .returned (.slice a 0 cap) ∧ w' = w := Any.slices_Compact_int_empty laysNm220 a cap w
open Go.RowKit Go.Lib Go.Sort in
theorem slices_Sort_int_none (p : Option Addr) (cap : Nat) (w : World) :
    Calls Tryz.prog 40 #[.slice p 0 cap] w fun e w' => e = .returned (.tuple #[]) ∧ w' = w := Any.slices_Sort_int_none lays189 p cap w
end Go.Proofs.YtnolbabpkhdpmaaGreat
/- slices.Sort and slices.Compact at []int: what they come to. -/
namespace Go.Proofs.YtnolbabpkhdpmaaGreat
open Go.RowKit Go.Sort Go.BigFrame

theorem compact_asc {zs : List Int} (h : zs.Pairwise (· ≤ ·)) : (Lib.compact zs).Pairwise (· < ·) := by
  unfold Lib.compact Lib.compactUpTo
  rw [List.pairwise_map]
  have hr : (List.range zs.length).Pairwise (· < ·) := List.pairwise_lt_range
  refine ((hr.filter (Lib.keeps zs.toArray)).imp_of_mem fun {i j} hi hj hij => ?_)
  obtain ⟨hi1, _⟩ := List.mem_filter.1 hi
  obtain ⟨hj1, hj2⟩ := List.mem_filter.1 hj
  rw [List.mem_range] at hi1 hj1
  have get : ∀ k (hk : k < zs.length), zs.toArray[k]! = zs[k] := fun k hk => by rw [getElem!_pos zs.toArray k (by simpa using hk)]; simp
  have hk : zs.toArray[j]! ≠ zs.toArray[j - 1]! := by
    unfold Lib.keeps at hj2
    rcases of_decide_eq_true hj2 with h0 | h0
    · omega
    · exact h0
  rw [get j hj1, get (j - 1) (by omega)] at hk
  rw [get i hi1, get j hj1]
  have h1 : zs[j - 1]'(by omega) ≤ zs[j] := List.pairwise_iff_getElem.1 h (j - 1) j (by omega) hj1 (by omega)
  have h2 : zs[i] ≤ zs[j - 1]'(by omega) := by
    rcases Nat.lt_or_ge i (j - 1) with h3 | h3
    · exact List.pairwise_iff_getElem.1 h i (j - 1) hi1 (by omega) h3
    · have : i = j - 1 := by omega
      subst this
      exact Int.le_refl _
  have h3 : zs[j] ≠ zs[j - 1]'(by omega) := hk
  omega
theorem mem_compact {zs : List Int} {z : Int} : z ∈ Lib.compact zs ↔ z ∈ zs := by
  unfold Lib.compact Lib.compactUpTo
  have get : ∀ k (hk : k < zs.length), zs.toArray[k]! = zs[k] := fun k hk => by rw [getElem!_pos zs.toArray k (by simpa using hk)]; simp
  rw [List.mem_map]
  constructor
  · rintro ⟨i, hi, rfl⟩
    have hi1 := List.mem_range.1 (List.mem_filter.1 hi).1
    rw [get i hi1]
    exact List.getElem_mem hi1
  · intro hz
    obtain ⟨i, hi, rfl⟩ := List.mem_iff_getElem.1 hz
    clear hz
    induction i using Nat.strongRecOn with
    | _ i ih =>
      by_cases hk : Lib.keeps zs.toArray i = true
      · exact ⟨i, List.mem_filter.2 ⟨List.mem_range.2 hi, hk⟩, get i hi⟩
      · unfold Lib.keeps at hk
        have hk' : ¬ (i = 0 ∨ zs.toArray[i]! ≠ zs.toArray[i - 1]!) := fun h => hk (decide_eq_true h)
        have h0 : i ≠ 0 := fun h => hk' (.inl h)
        have h1 : zs.toArray[i]! = zs.toArray[i - 1]! := Decidable.byContradiction fun h => hk' (.inr h)
        rw [get i hi, get (i - 1) (by omega)] at h1
        rw [h1]
        exact ih (i - 1) (by omega) (by omega)

def sortZ (zs : List Int) : List Int := zs.mergeSort fun x y => decide (x ≤ y)
theorem sortZ_asc (zs : List Int) : (sortZ zs).Pairwise (· ≤ ·) := by
  have := List.pairwise_mergeSort (le := fun x y : Int => decide (x ≤ y)) (by intro a b c h1 h2; simp at *; omega) (by intro a b; simp; omega) zs
  exact this.imp fun h => by simpa using h
theorem sortZ_perm (zs : List Int) : (sortZ zs).Perm zs := List.mergeSort_perm _ _
theorem compact_len (zs : List Int) : (Lib.compact zs).length ≤ zs.length := by
  unfold Lib.compact Lib.compactUpTo
  rw [List.length_map]
  exact Nat.le_trans (List.length_filter_le _ _) (by simp)
/-- slices.Sort, then slices.Compact, of numbers that the call owns. -/
def SortedPost (B : Nat) (a : Option Addr) (n c : Nat) (zs : List Int) (w : World) (e : Ending) (w' : World) : Prop := e = .returned (.tuple #[]) ∧ w'.ownsRow B 3 1 (.slice a n c) n (zs.map ic) ∧ Below B w w'
theorem sortI_any (B : Nat) (a : Option Addr) (n c : Nat) (zs : List Int) (w : World) (hn : n = zs.length) (h : w.ownsRow B 3 1 (.slice a n c) n (zs.map ic)) (hB : B ≤ w.heap.size) (hl : zs.length ≤ 1000000) :
    Calls Tryz.prog 40 #[.slice a n c] w (SortedPost B a n c (sortZ zs) w) := by
  subst hn
  by_cases hv : Value.slice a zs.length c = .slice none 0 0
  · have hz : zs = [] := by
      have : zs.length = 0 := by injection hv
      exact List.eq_nil_of_length_eq_zero this
    subst hz
    have hs : sortZ [] = [] := by unfold sortZ; simp
    injection hv with ha _ hc
    subst ha hc
    refine (slices_Sort_int_none none 0 w).mono ?_
    rintro e w' ⟨rfl, rfl⟩
    rw [hs]
    exact ⟨rfl, h, Below.refl _ _⟩
  · obtain ⟨g, cap, e0, hbg, hlt, hnc, hcm, _, hH⟩ := Lib.holds_of_ownsRow h hv
    injection e0 with e1 _ e3
    subst e1 e3
    refine (slices_Sort_int g 0 c zs w hH hlt (by omega)).mono ?_
    rintro e w' ⟨rfl, q, os, rfl⟩
    have ho := Lib.ownsRow_putRow (q := q) (k := zs.length) (ys := sortZ zs) h (sortZ_perm zs).length_eq (Nat.le_refl _)
    rw [List.take_of_length_le (Nat.le_of_eq (sortZ_perm zs).length_eq)] at ho
    have hg : Below (putRow (Value.int .i64) (Sort.ahead w q) g 0 (sortZ zs).toArray).heap.size (putRow (Value.int .i64) (Sort.ahead w q) g 0 (sortZ zs).toArray) (grow (putRow (Value.int .i64) (Sort.ahead w q) g 0 (sortZ zs).toArray) os) := below_regrown _ _ os
    refine ⟨rfl, own_later ho hg, (Lib.below_putRow (Below.refl B w) hbg).trans (hg.mono ?_)⟩
    simpa [putRow, mapBlock, Sort.ahead] using hB
def CompPost (B : Nat) (M : List Int) (w : World) (e : Ending) (w' : World) : Prop := ∃ a c, e = .returned (.slice a M.length c) ∧ Rd w' (.slice a M.length c) M.length (M.map ic) ∧ Below B w w'
theorem compI_any (B : Nat) (a : Option Addr) (n c : Nat) (zs : List Int) (w : World) (hn : n = zs.length) (h : w.ownsRow B 3 1 (.slice a n c) n (zs.map ic)) (hl : zs.length ≤ 1000000) :
    Calls Tryz.prog 42 #[.slice a n c] w (CompPost B (Lib.compact zs) w) := by
  subst hn
  by_cases hv : Value.slice a zs.length c = .slice none 0 0
  · have hz : zs = [] := by
      have : zs.length = 0 := by injection hv
      exact List.eq_nil_of_length_eq_zero this
    subst hz
    injection hv with ha _ hc
    subst ha hc
    refine (slices_Compact_int_empty none 0 w).mono ?_
    rintro e w' ⟨rfl, rfl⟩
    exact ⟨none, 0, rfl, Rd.of_own h, Below.refl _ _⟩
  · obtain ⟨g, cap, e0, hbg, hlt, hnc, hcm, _, hH⟩ := Lib.holds_of_ownsRow h hv
    injection e0 with e1 _ e3
    subst e1 e3
    refine (slices_Compact_int g 0 c zs w hH (by omega) hnc).mono ?_
    rintro e w' ⟨rfl, q, rfl⟩
    have hcl := compact_len zs
    have ho := Lib.ownsRow_putRow (q := q) (k := (Lib.compact zs).length) (ys := Lib.compact zs ++ List.replicate (zs.length - (Lib.compact zs).length) 0) h (by rw [List.length_append, List.length_replicate]; omega) hcl
    rw [List.take_left] at ho
    exact ⟨_, _, rfl, Rd.of_own ho, Lib.below_putRow (Below.refl B w) hbg⟩
end Go.Proofs.YtnolbabpkhdpmaaGreat
/- Layer 20 (past): Retired. (printed by tools/gen_yr.py) -/
namespace Go.Proofs.YtnolbabpkhdpmaaGreat
open Go.RowKit Go.Sort Go.Shelf Go.BigFrame
attribute [local go_sem] Oper.semAt_some

/-- Whom words of device 1 retire. -/
def retL (l : List TxS) : List Int := (l.filter fun x => x.note == 2).map TxS.whom
def retT (l : List TxS) : List Int := Lib.compact (sortZ (retL (devT 1 l)))
theorem retL_snoc (l : List TxS) (x : TxS) : retL (l ++ [x]) = retL l ++ if x.note == 2 then [x.whom] else [] := by
  unfold retL
  rw [List.filter_append, List.map_append]
  cases hp : (x.note == 2) <;> simp [hp]
theorem retL_len (l : List TxS) : (retL l).length ≤ l.length := by unfold retL; rw [List.length_map]; exact List.length_filter_le _ _
theorem keeps_putRow {w w' : World} {g off q : Nat} {d : Array Int} {cur : Array Value} {T : TypeId} {fz : Nat × Nat} (hg : w.heap[g]? = some (.cells cur T fz)) (hb : Below (putRow (Value.int .i64) (Sort.ahead w q) g off d).heap.size (putRow (Value.int .i64) (Sort.ahead w q) g off d) w') : KeepsOthers w w' := by
  have hsz : (putRow (Value.int .i64) (Sort.ahead w q) g off d).heap.size = w.heap.size := by simp [putRow, mapBlock, Sort.ahead]
  refine ⟨by have := hb.size; omega, fun k o hk ho => ?_⟩
  have hne : k ≠ g := by rintro rfl; rw [hg] at hk; cases hk; cases ho
  have hlt : k < w.heap.size := (Array.getElem?_eq_some_iff.1 hk).1
  rw [hb.block k (by omega), heap_putRow_other _ _ _ _ _ hne]
  exact hk
def SortOwn (B : Nat) (a : Option Addr) (n c : Nat) (zs : List Int) (w : World) (e : Ending) (w' : World) : Prop := e = .returned (.tuple #[]) ∧ w'.ownsRow B 3 1 (.slice a n c) n (zs.map ic) ∧ Below B w w' ∧ KeepsOthers w w'
theorem sortO_any (B : Nat) (a : Option Addr) (n c : Nat) (zs : List Int) (w : World) (hn : n = zs.length) (h : w.ownsRow B 3 1 (.slice a n c) n (zs.map ic)) (hB : B ≤ w.heap.size) (hl : zs.length ≤ 1000000) :
    Calls Tryz.prog 40 #[.slice a n c] w (SortOwn B a n c (sortZ zs) w) := by
  subst hn
  by_cases hv : Value.slice a zs.length c = .slice none 0 0
  · have hz : zs = [] := by
      have : zs.length = 0 := by injection hv
      exact List.eq_nil_of_length_eq_zero this
    subst hz
    have hs : sortZ [] = [] := by unfold sortZ; simp
    injection hv with ha _ hc
    subst ha hc
    refine (slices_Sort_int_none none 0 w).mono ?_
    rintro e w' ⟨rfl, rfl⟩
    rw [hs]
    exact ⟨rfl, h, Below.refl _ _, KeepsOthers.refl _⟩
  · obtain ⟨g, cap, e0, hbg, hlt, hnc, hcm, hgb, hH⟩ := Lib.holds_of_ownsRow h hv
    rcases id h.2 with ⟨hnil, _⟩ | ⟨g', cap', cur, hv', _, hgc, _⟩
    · exact absurd hnil hv
    have he := hv'.symm.trans e0
    injection he with h1 _ h3
    injection h1 with h1
    injection h1 with h1
    subst h1 h3
    injection e0 with e1 _ e3
    subst e1 e3
    refine (slices_Sort_int g' 0 c zs w hH hlt (by omega)).mono ?_
    rintro e w' ⟨rfl, q, os, rfl⟩
    have ho := Lib.ownsRow_putRow (q := q) (k := zs.length) (ys := sortZ zs) h (sortZ_perm zs).length_eq (Nat.le_refl _)
    rw [List.take_of_length_le (Nat.le_of_eq (sortZ_perm zs).length_eq)] at ho
    have hg : Below (putRow (Value.int .i64) (Sort.ahead w q) g' 0 (sortZ zs).toArray).heap.size (putRow (Value.int .i64) (Sort.ahead w q) g' 0 (sortZ zs).toArray) (grow (putRow (Value.int .i64) (Sort.ahead w q) g' 0 (sortZ zs).toArray) os) := below_regrown _ _ os
    refine ⟨rfl, own_later ho hg, (Lib.below_putRow (Below.refl B w) hbg).trans (hg.mono ?_), keeps_putRow hgc hg⟩
    simpa [putRow, mapBlock, Sort.ahead] using hB
def CompOwn (B : Nat) (M : List Int) (w : World) (e : Ending) (w' : World) : Prop := ∃ a c, e = .returned (.slice a M.length c) ∧ w'.ownsRow B 3 1 (.slice a M.length c) M.length (M.map ic) ∧ Below B w w'
theorem compO_any (B : Nat) (a : Option Addr) (n c : Nat) (zs : List Int) (w : World) (hn : n = zs.length) (h : w.ownsRow B 3 1 (.slice a n c) n (zs.map ic)) (hl : zs.length ≤ 1000000) :
    Calls Tryz.prog 42 #[.slice a n c] w fun e w' => CompOwn B (Lib.compact zs) w e w' ∧ KeepsOthers w w' := by
  subst hn
  by_cases hv : Value.slice a zs.length c = .slice none 0 0
  · have hz : zs = [] := by
      have : zs.length = 0 := by injection hv
      exact List.eq_nil_of_length_eq_zero this
    subst hz
    injection hv with ha _ hc
    subst ha hc
    refine (slices_Compact_int_empty none 0 w).mono ?_
    rintro e w' ⟨rfl, rfl⟩
    exact ⟨⟨none, 0, rfl, h, Below.refl _ _⟩, KeepsOthers.refl _⟩
  · obtain ⟨g, cap, e0, hbg, hlt, hnc, hcm, _, hH⟩ := Lib.holds_of_ownsRow h hv
    rcases id h.2 with ⟨hnil, _⟩ | ⟨g', cap', cur, hv', _, hgc, _⟩
    · exact absurd hnil hv
    have he := hv'.symm.trans e0
    injection he with h1 _ h3
    injection h1 with h1
    injection h1 with h1
    subst h1 h3
    injection e0 with e1 _ e3
    subst e1 e3
    refine (slices_Compact_int g' 0 c zs w hH (by omega) hnc).mono ?_
    rintro e w' ⟨rfl, q, rfl⟩
    have hcl := compact_len zs
    have ho := Lib.ownsRow_putRow (q := q) (k := (Lib.compact zs).length) (ys := Lib.compact zs ++ List.replicate (zs.length - (Lib.compact zs).length) 0) h (by rw [List.length_append, List.length_replicate]; omega) hcl
    rw [List.take_left] at ho
    exact ⟨⟨_, _, rfl, ho, Lib.below_putRow (Below.refl B w) hbg⟩, keeps_putRow hgc (Below.refl _ _)⟩
/-- A box that lies below a row that the call owns: what is there behind an append that is stored into it. -/
theorem boxed_appended2 {W w1 : World} {N B : Nat} {t e : TypeId} {size : Nat} {v v' : Value} {k m : Nat} {xs ys : List Value} {tmp : Obj}
    (hv : Boxed W B t v) (hBN : B < N) (hrow : W.ownsRow N e size v k xs) (hN : N ≤ W.heap.size) (hown' : w1.ownsRow N e size v' m ys) (hgrow : (W.alloc tmp).grownBy w1 v.ownBlock) :
    Boxed w1 B t v ∧ Boxed (w1.setCell ⟨B, 0, none⟩ v') B t v' ∧ (w1.setCell ⟨B, 0, none⟩ v').ownsRow N e size v' m ys ∧ KeepsOthers W (w1.setCell ⟨B, 0, none⟩ v') ∧ (∀ n, n ≤ B → Below n W (w1.setCell ⟨B, 0, none⟩ v')) ∧ ∀ (r : Nat) (cs : Array Value) (T : TypeId), r < N → r ≠ B → Bx W r cs T → Bx (w1.setCell ⟨B, 0, none⟩ v') r cs T := by
  have hne : ∀ r, r < N → some r ≠ v.ownBlock := fun r hr e' => by have := (hrow.lt r e'.symm).1; omega
  have hne' : ∀ r, r < N → some r ≠ v'.ownBlock := fun r hr e' => by have := (hown'.lt r e'.symm).1; omega
  have hv1 : Boxed w1 B t v := (hv.alloc tmp).kept hgrow (hne B hBN)
  refine ⟨hv1, hv1.set v', hown'.kept (grownBy_setCell' w1 B v') (.inr (hne' B hBN).symm), ?_, fun n hn => ?_, fun r cs T hr hrb hx => ?_⟩
  · refine ((KeepsOthers.alloc W tmp).trans (KeepsOthers.of_grownBy hgrow fun j o ej hj => ?_)).trans (KeepsOthers.setCell _ _ _)
    rcases (hrow.alloc tmp).2 with ⟨rfl, _⟩ | ⟨g, cap, cur, rfl, _, hgb, _⟩
    · simp [Value.ownBlock] at ej
    · obtain rfl : g = j := by simpa [Value.ownBlock] using ej
      rw [hgb] at hj; cases hj; rfl
  · refine (((Below.refl n W).alloc (by omega) tmp).grown hgrow (by simp; omega) fun j ej => ?_).setCell (p := ⟨B, 0, none⟩) hn v'
    have := (hrow.lt j ej).1
    omega
  · refine bx_seto ?_ (Ne.symm hrb) _ _
    exact bx_grown hgrow (bx_later (below_alloc W tmp) hx) (fun e' => absurd e' (Ne.symm (hne r hr)))
set_option maxRecDepth 100000 in
set_option maxHeartbeats 8000000 in
theorem retired_any {vl : Value} {l : List TxS} (w : World) (hl : LRd w vl l) (hn : l.length ≤ 1000000) :
    Calls Tryz.prog 16 #[vl] w (CompOwn w.heap.size (retT l) w) := by
  obtain ⟨la, lc, rfl, hnc, hcm, -, -⟩ := id hl.1
  obtain ⟨i0, hi, hz0, hz1, hz2⟩ := elInts.info
  unfold maxLen at hcm
  obtain ⟨n, hln⟩ : ∃ n, l.length = n := ⟨_, rfl⟩
  have HL := Lib.hid hl
  have HLN := Lib.hid hln
  have HN := Lib.hid hn
  rw [hln] at hnc ⊢
  obtain ⟨n0, hn0⟩ : ∃ n0, w.heap.size = n0 := ⟨_, rfl⟩
  obtain ⟨w3, hw3⟩ : ∃ w3, ((w.alloc (.cells #[.slice none 0 0] 22)).alloc (.cells #[.slice la n lc] 24)).alloc (.cells #[.int .i64 1] 3) = w3 := ⟨_, rfl⟩
  have hb3 : Below w.heap.size w w3 := by rw [← hw3]; exact below_alloc_then (below_alloc_then (below_alloc _ _))
  have hsz3 : w3.heap.size = n0 + 3 := by rw [← hw3]; simp [hn0]
  have hO : Boxed w3 n0 22 (.slice none 0 0) := by rw [← hw3]; exact bx_later (below_alloc_then (below_alloc _ _)) (bx_new hn0.symm)
  have hQ1 : Bx w3 (n0 + 1) #[.slice la n lc] 24 := by rw [← hw3]; exact bx_later (below_alloc _ _) (bx_new (by simp [hn0]))
  have hQ2 : Bx w3 (n0 + 1 + 1) #[.int .i64 1] 3 := by rw [← hw3]; exact bx_new (by simp [hn0])
  have HW3 := Lib.hid hw3
  have HN0 := Lib.hid hn0
  have HSZ3 := Lib.hid hsz3
  have HB3 := Lib.hid hb3
  have HO := Lib.hid hO
  have HQ1 := Lib.hid hQ1
  have HQ2 := Lib.hid hQ2
  clear hl hln hn hw3 hb3 hsz3 hO hQ1 hQ2
  refine (callsIn_wide (n := 6)).1 ?_
  refine callsIn_of_wp_marks Tryz.func16 rfl trivial ?_ rfl
  simp only [Tryz.ntmps16, List.size_toArray, List.length_cons, List.length_nil, Nat.reduceAdd, Nat.reduceSub, Array.replicate_succ, Array.replicate_zero, List.push_toArray, List.append_toArray, List.nil_append, List.cons_append]
  gi_wp2_with fail
  refine ⟨trivial, ?_⟩
  refine (callsIn_wide.2 (of_any la n lc 1 _)).mono ?_
  rintro e w' ⟨rfl, rfl⟩
  gi_wp2_with fail
  rw [HW3.out, HN0.out]
  refine wpIn_rangeFunc_ownH (F := Fence.wide) rfl (by decide) (gf := 57) (lb := #[.pointer (some ⟨n0 + 1, 0, none⟩), .pointer (some ⟨n0 + 1 + 1, 0, none⟩)]) rfl trivial (enters_of Tryz.func57 (by kernel_rfl) rfl)
    (of1_stops 5 (by decide) w 1 (.slice la n lc) l (n0 + 1) (n0 + 1 + 1) w3 HB3.out (cell_of_box HQ1.out 0 rfl) HQ2.out (HLN.out ▸ HL.out) HN.out) (fun h k => h.t k) (KpS.b (by have := HN0.out; have := HSZ3.out; omega) (by have := HSZ3.out; omega)) (Below.refl _ w3) (fun _ => rfl)
    (fun pre W => (∃ v, Boxed W n0 22 v ∧ W.ownsRow (n0 + 3) 3 1 v (retL pre).length ((retL pre).map ic) ∧ True) ∧ Below n0 w W ∧ Boxed W (n0 + 1 + 1) 3 (.int .i64 1))
    (fun _ _ _ => False)
    (OwnFrom.and (Own.from (holdsRow_own (n0 + 3) n0 22 3 1 (fun pre => (retL pre).length) (fun pre => (retL pre).map ic) (fun _ _ => True)) _) (OwnFrom.and (ownFrom_below (by have := HN0.out; omega) (by have := HSZ3.out; omega)) (Own.from (boxed_own _ _ _) _)))
    (fun _ _ _ _ _ hs _ _ => hs)
    ⟨⟨_, HO.out, World.ownsRow_nil _ _ _ _, trivial⟩, HN0.out ▸ HB3.out, HQ2.out⟩
    (fun x a' W => ∃ q, Bx W q #[.int .i64 x.dev, .int .i64 x.seq, .int .i64 x.time, .slice x.ad x.nd x.cd, .slice x.ao x.no x.co, .slice x.ae x.ne x.ce, .bool x.fm, .slice x.ah x.nh x.ch, .int .i64 x.note, .int .i64 x.whom, .int .i64 x.upto] 31 ∧ a' = { tmps := #[.slice la n lc, undef, .slice none 0 0, .pointer (some ⟨n0, 0, none⟩), .pointer (some ⟨q, 0, none⟩), .slice la n lc, .func (.func 57) #[] #[.pointer (some ⟨n0 + 1, 0, none⟩), .pointer (some ⟨n0 + 1 + 1, 0, none⟩)], .agg #[.int .i64 x.dev, .int .i64 x.seq, .int .i64 x.time, .slice x.ad x.nd x.cd, .slice x.ao x.no x.co, .slice x.ae x.ne x.ce, .bool x.fm, .slice x.ah x.nh x.ch, .int .i64 x.note, .int .i64 x.whom, .int .i64 x.upto], undef, undef, undef, undef, undef, undef, undef, undef, undef, undef, undef, undef], defers := [] })
    (fun x a' _ X Y row hs hg hr => by obtain ⟨q, h1, h2⟩ := hs; exact ⟨q, bx_kept h1 hg (fun r e => (hr r e).2), h2⟩)
    ?assign ?body ?done ?stop
  case assign =>
    rintro l' pre x W K ⟨⟨v, hv, hrow, -⟩, h4, hF⟩ hK
    gi_wp2_with fail
    have hszW : n0 ≤ W.heap.size := HN0.out ▸ h4.size
    exact hK _ _ ((KeepsOthers.alloc _ _).from _) ⟨(HN0.out ▸ (Below.refl n0 W).alloc hszW _), fun e => (Below.heap_alloc W _ _ (Array.getElem?_eq_some_iff.1 e).1).trans e⟩ ⟨⟨v, hv.alloc _, hrow.alloc _, trivial⟩, h4.alloc hszW _, hF.alloc _⟩ ⟨W.heap.size, bx_new rfl, rfl⟩
  case body =>
    rintro l' pre x a' W hl' ⟨r, hr⟩ ⟨⟨v, hv, hrow, -⟩, h4, hF⟩ ⟨q, hX, rfl⟩ hlt
    have hc := hv.cell
    have e0 := cell_of_box hX 0 rfl
    have e1 := cell_of_box hX 1 rfl
    have e2 := cell_of_box hX 2 rfl
    have e3 := cell_of_box hX 3 rfl
    have e4 := cell_of_box hX 4 rfl
    have e5 := cell_of_box hX 5 rfl
    have e6 := cell_of_box hX 6 rfl
    have e7 := cell_of_box hX 7 rfl
    have e8 := cell_of_box hX 8 rfl
    have e9 := cell_of_box hX 9 rfl
    have e10 := cell_of_box hX 10 rfl
    have hE := retL_snoc pre x
    have hpl : (retL pre).length + 1 ≤ 1000000 := by have := retL_len pre; have := HN.out; omega
    obtain ⟨kk, hkk⟩ : ∃ kk, (retL pre).length = kk := ⟨_, rfl⟩
    have hNW : n0 + 3 ≤ W.heap.size := by have := hF.lt; omega
    rw [hkk] at hrow hpl
    have HKK := Lib.hid hkk
    clear hkk hX hr hl' hlt
    cases hp : (x.note == 2)
    · have HE : Hid (retL (pre ++ [x]) = retL pre) := by show _ = _; rw [hE, hp]; simp
      clear hE
      gi_wp2_with fail
      refine ⟨(KeepsOthers.refl _).from _, ⟨Below.refl _ _, fun e => e⟩, ?_⟩
      show (∃ v, Boxed _ _ _ v ∧ World.ownsRow _ _ _ _ v _ _ ∧ True) ∧ _ ∧ _
      rw [HE.out, HKK.out]
      exact ⟨⟨v, hv, hrow, trivial⟩, h4, hF⟩
    · have HE : Hid (retL (pre ++ [x]) = retL pre ++ [x.whom]) := by show _ = _; rw [hE, hp]; rfl
      have HF := Lib.hid hF
      have H4 := Lib.hid h4
      clear hE hF h4
      gi_wp2_with (gi_at_builtin; refine wpListIn_append_own _ rfl _ _ 22 rfl (n0 + 3) 3 i0 _ 1 8 elInts.ty hi hz0 hz1 hz2 elInts.zs (by decide) _ _ _ rfl (hrow.alloc _) ⟨W.heap.size, 0, none⟩ 1 1 [.int .i64 x.whom] rfl rfl (cells_one W #[.int .i64 x.whom] 3) (fun u hu => by rw [List.mem_singleton.1 hu]; rfl) (by simp only [maxLen]; omega) (by omega) (by simp; omega) ?_; intro v' w1' hown' hgrow _; obtain ⟨g', cap', rfl⟩ := ownsRow_succ hown'; obtain ⟨hv1, hv2, hr2, hk2, hb2, hx2⟩ := boxed_appended2 hv (by omega) hrow hNW hown' hgrow; have HF2 := Lib.hid (hx2 (n0 + 1 + 1) _ _ (by omega) (by omega) HF.out); have HB2 := Lib.hid (hb2 n0 (Nat.le_refl _)); have HV2 := Lib.hid hv2; have HR2 := Lib.hid hr2; have HK2 := Lib.hid hk2; have hc1 := hv1.cell; have hf1 := hv1.frozen; clear hv1 hv2 hr2 hk2 hb2 hx2 hown' hgrow)
      refine ⟨HK2.out.from _, ⟨(HN0.out ▸ HB2.out), fun _ => HF2.out⟩, ⟨_, HV2.out, ?_, trivial⟩, H4.out.trans (HB2.out.mono (Nat.le_refl _)), HF2.out⟩
      rw [HE.out, List.length_append, HKK.out, List.map_append]
      exact HR2.out
  case done =>
    rintro D ys W hD rfl ⟨⟨v, hv, hrow, -⟩, h4, hF⟩ hK
    obtain ⟨O, hO⟩ : ∃ O, retL (devT 1 l) = O := ⟨_, rfl⟩
    have hOl : O.length ≤ 1000000 := by
      have h1 := retL_len (devT 1 l)
      have h2 : (devT 1 l).length ≤ l.length := by unfold devT; exact List.length_filter_le _ _
      have h3 := HN.out
      rw [hO] at h1; omega
    rw [hO] at hrow
    obtain ⟨a1, c1, rfl, _⟩ := Rd.of_own hrow
    obtain ⟨k, hk⟩ : ∃ k, O.length = k := ⟨_, rfl⟩
    rw [hk] at hrow
    have hc := hv.cell
    have HV := Lib.hid hv
    have H4 := Lib.hid h4
    have HKD := Lib.hid hK
    have HST := Lib.hid (sortO_any (n0 + 3) a1 k c1 O W hk.symm hrow (by have := hF.lt; omega) (by omega))
    have HSL : Hid ((sortZ O).length = k) := by show _ = _; rw [(sortZ_perm O).length_eq]; exact hk
    have HRT : Hid (retT l = Lib.compact (sortZ O)) := by show _ = _; unfold retT; rw [hO]
    rw [hk] at hc hOl
    clear hv h4 hF hK hrow hO hk
    gi_wp2_with fail
    refine ⟨trivial, ?_⟩
    refine (callsIn_wide.2 HST.out).mono ?_
    rintro e w5 ⟨rfl, hown5, hb5, hk5⟩
    have hc5 : w5.cell? ⟨n0, 0, none⟩ = some (.slice a1 k c1) := by rw [Below.cell hb5 (p := ⟨n0, 0, none⟩) (by simp only []; omega)]; exact hc
    have HCP := Lib.hid (compO_any (n0 + 3) a1 k c1 (sortZ O) w5 HSL.out.symm hown5 (by have := HSL.out; omega))
    have HKD5 := Lib.hid (hk5.same D _ HKD.out rfl)
    have HB5 := Lib.hid (H4.out.trans (hb5.mono (show n0 ≤ n0 + 3 by omega)))
    have hD1 : n0 + 3 ≤ D := by have := HSZ3.out; omega
    clear hown5 hb5 hk5 hc HST
    gi_wp2_with fail
    refine ⟨trivial, ?_⟩
    refine (callsIn_wide.2 HCP.out).mono ?_
    rintro e w6 ⟨⟨a6, c6, rfl, hown6, hb6⟩, hk6⟩
    have hKD6 := hk6.same D _ HKD5.out rfl
    have HO6 := Lib.hid hown6
    have HKD6 := Lib.hid hKD6
    have HB6 := Lib.hid (HB5.out.trans (hb6.mono (show n0 ≤ n0 + 3 by omega)))
    clear hown6 hb6 hk6 hc5 hKD6
    gi_wp2_with fail
    refine ⟨by simp, .inl ⟨_, _, rfl, run_takeDeferred HKD6.out, ?_⟩⟩
    have hO7 := ownsRow_putObj HO6.out (.deferred none) HKD6.out rfl
    have hB7 : Below n0 w (w6.putObj D (.deferred none)) := HB6.out.trans (belowK_b (n₀ := n0) (w := w) (by have := HN0.out; omega) w6 D _ _ (by have := HN0.out; omega) HKD6.out rfl rfl)
    refine ⟨_, results_tmp rfl _ _ _, ?_⟩
    rw [HRT.out]
    exact ⟨a6, c6, rfl, own_monoT hO7 (by have := HN0.out; omega), by rw [HN0.out]; exact hB7⟩
  case stop =>
    rintro D c pre W _ _ h _
    exact h.elim
end Go.Proofs.YtnolbabpkhdpmaaGreat
/- Layer 20 (past): Members. (printed by tools/gen_ym.py) -/
namespace Go.Proofs.YtnolbabpkhdpmaaGreat
open Go.RowKit Go.Sort Go.BigFrame
attribute [local irreducible] FlowW

/-- What a device holds, as it comes in: its device; its rights are not read. -/
structure OwnS where
  dev : Int
  ra : Option Addr
  rn : Nat
  rc : Nat
instance : Inhabited OwnS := ⟨⟨0, none, 0, 0⟩⟩
def OwnS.cs (y : OwnS) : List Value := [.int .i64 y.dev, .slice y.ra y.rn y.rc]
theorem elOwn : El Tryz.prog 66 71 2 32 (.agg #[.int .i64 0, .slice none 0 0]) := El.mk' (by kernel_rfl) (by kernel_rfl) rfl (by decide)
theorem rd_own {w : World} {ao : Option Addr} {n c : Nat} {l : List OwnS} (h : Rd w (.slice ao n c) n (l.flatMap OwnS.cs)) (hl : n = l.length) (k : Nat) (hk : k < l.length) {y : OwnS} (hy : l[k] = y) :
    ∃ b o : Nat, (∀ W, (Instr.indexAt 66 (.slice ao n c) (.int .i64 (k : Int))).run Tryz.prog W = .ok (.pointer (some ⟨b, o, none⟩)) W) ∧ w.cell? ⟨b, o, none⟩ = some (.int .i64 y.dev) ∧ w.cell? ⟨b, o + 1, none⟩ = some (.slice y.ra y.rn y.rc) := by
  subst hl
  subst hy
  obtain ⟨A, hA, _, hlt, hc⟩ := h.elem 2 k hk (flatC_length OwnS.cs 2 (fun _ => rfl) l) (by decide)
  obtain ⟨b, o, s⟩ := A
  have hs : s = none := by
    obtain ⟨u, _, hu⟩ := hc 0 (by decide)
    have := World.cell?_spot hu
    simpa [Addr.add] using this
  subst hs
  have key : ∀ j, j < 2 → ∀ u, (OwnS.cs l[k])[j]? = some u → w.cell? ⟨b, o + j, none⟩ = some u := by
    intro j hj u hu
    obtain ⟨u', h1, h2⟩ := hc j hj
    rw [flatC_at OwnS.cs 2 (fun _ => rfl) l k hk j hj, hu] at h1
    cases h1
    rw [Addr.add_lit] at h2
    exact h2
  exact ⟨b, o, fun W => run_indexAt_at elOwn hA hk W, key 0 (by decide) _ rfl, key 1 (by decide) _ rfl⟩

/-! ### Plain -/
def lineP (line : List Int) (k : Nat) : List Int := ((List.range k).filter fun (j : Nat) => decide (0 < line.getD j 0)).map fun (j : Nat) => (j : Int) + 1
def handD (t : TxS) : List Int := t.dev :: t.hands.map HandT.to
def memL (line : List Int) (owns : List OwnS) (l : List TxS) : List Int := 1 :: (lineP line line.length ++ (owns.map OwnS.dev ++ l.flatMap handD))
/-- The devices that have a word. -/
def memT (line : List Int) (owns : List OwnS) (l : List TxS) : List Int := (Lib.compact (sortZ (memL line owns l))).filter fun d => inQ3 d 1 64
theorem lineP_succ (line : List Int) (k : Nat) : lineP line (k + 1) = lineP line k ++ if 0 < line.getD k 0 then [(k : Int) + 1] else [] := by
  unfold lineP
  rw [List.range_succ, List.filter_append, List.map_append]
  by_cases h : 0 < line.getD k 0
  · have hf : [k].filter (fun (j : Nat) => decide (0 < line.getD j 0)) = [k] := by rw [List.filter_cons_of_pos (p := fun (j : Nat) => decide (0 < line.getD j 0)) (decide_eq_true h)]; rfl
    rw [if_pos h, hf]; rfl
  · have hf : [k].filter (fun (j : Nat) => decide (0 < line.getD j 0)) = [] := by rw [List.filter_cons_of_neg (p := fun (j : Nat) => decide (0 < line.getD j 0)) (by simpa using h)]; rfl
    rw [if_neg h, hf]; rfl
theorem lineP_len (line : List Int) (k : Nat) : (lineP line k).length ≤ k := by
  unfold lineP
  rw [List.length_map]
  exact Nat.le_trans (List.length_filter_le _ _) (by simp)
theorem flat_take_len {α β : Type} (f : α → List β) (l : List α) (k : Nat) : ((l.take k).flatMap f).length ≤ (l.flatMap f).length := by
  have h : l.flatMap f = (l.take k).flatMap f ++ (l.drop k).flatMap f := by rw [← List.flatMap_append, List.take_append_drop]
  rw [h, List.length_append]
  omega
theorem flat_take_next {α β : Type} (f : α → List β) {l : List α} {k : Nat} (hk : k < l.length) {x : α} (hx : l[k] = x) : (l.take (k + 1)).flatMap f = (l.take k).flatMap f ++ f x := by
  rw [List.take_succ_eq_append_getElem hk, List.flatMap_append, hx]; simp
theorem flat_take_in {α β : Type} (f : α → List β) {l : List α} {k : Nat} (hk : k < l.length) {x : α} (hx : l[k] = x) : ((l.take k).flatMap f).length + (f x).length ≤ (l.flatMap f).length := by
  have := flat_take_len f l (k + 1)
  rw [flat_take_next f hk hx, List.length_append] at this
  exact this
theorem mem1_any (d : Int) (w : World) : Calls Tryz.prog 43 #[.int .i64 d] w fun e w' => e = .returned (.bool (!inQ3 d 1 64)) ∧ w = w' := by
  obtain ⟨r, hr⟩ : ∃ r, inQ3 d 1 64 = r := ⟨_, rfl⟩
  have HR := Lib.hid hr
  rw [hr]
  clear hr
  go_enter Tryz.func43, Tryz.ntmps43
  go_wp2_with fail
  refine (within_b r HR.out).mono ?_
  rintro e w1 ⟨rfl, rfl⟩
  go_wp2_with fail
  go_ret
  exact ⟨rfl, rfl⟩
theorem mem_test : TestI 43 #[] (fun d => !inQ3 d 1 64) :=
  ⟨enters_of Tryz.func43 (by kernel_rfl) rfl, fun x W => mem1_any x W⟩
def MemP (w : World) (M : List Int) (e : Ending) (w' : World) : Prop := ∃ v, e = .returned v ∧ Rd w' v M.length (M.map ic) ∧ Below w.heap.size w w'
set_option maxRecDepth 100000 in
set_option maxHeartbeats 8000000 in
theorem members_any {vv vo vl : Value} {line : List Int} {owns : List OwnS} {l : List TxS} (w : World) (hv : Rd w vv line.length (line.map ic)) (ho : Rd w vo owns.length (owns.flatMap OwnS.cs)) (hl : LRd w vl l) (h1 : line.length ≤ 100000) (h2 : owns.length ≤ 100000) (h3 : (l.flatMap handD).length ≤ 100000) :
    Calls Tryz.prog 15 #[vv, vo, vl] w (MemP w (memT line owns l)) := by
  obtain ⟨ga, gc, rfl, hgc, hgm, -, -⟩ := id hv
  obtain ⟨oa, oc, rfl, hoc, hom, -, -⟩ := id ho
  obtain ⟨la, lc, rfl, hnc, hcm, -, -⟩ := id hl.1
  unfold maxLen at hgm hom hcm
  obtain ⟨m, hgl⟩ : ∃ m, line.length = m := ⟨_, rfl⟩
  obtain ⟨no, hol⟩ : ∃ no, owns.length = no := ⟨_, rfl⟩
  obtain ⟨n, hln⟩ : ∃ n, l.length = n := ⟨_, rfl⟩
  have HV := Lib.hid hv
  have HO := Lib.hid ho
  have HL := Lib.hid hl
  have HGL := Lib.hid hgl
  have HOL := Lib.hid hol
  have HLN := Lib.hid hln
  have H3 := Lib.hid h3
  rw [hgl] at hgc h1 ⊢
  rw [hol] at hoc h2 ⊢
  rw [hln] at hnc ⊢
  obtain ⟨w1, hw1⟩ : ∃ w1, w.alloc (.cells #[.int .i64 1] 3) = w1 := ⟨_, rfl⟩
  have hb1 : Below w.heap.size w w1 := by rw [← hw1]; exact below_alloc _ _
  have hown1 : w1.ownsRow w.heap.size 3 1 (.slice (some ⟨w.heap.size, 0, none⟩) 1 1) 1 ([(1 : Int)].map ic) := by
    rw [← hw1]
    exact ⟨rfl, .inr ⟨w.heap.size, 1, #[.int .i64 1], rfl, Nat.le_refl _, World.alloc_heap_new w _, Nat.le_refl _, by decide, rfl, rfl⟩⟩
  have HW1 := Lib.hid hw1
  have HB1 := Lib.hid hb1
  have HO1 := Lib.hid hown1
  clear hv ho hl hgl hol hln h3 hw1 hb1 hown1
  go_enter Tryz.func15, Tryz.ntmps15
  go_wp2_with fail
  rw [HW1.out]
  go_loopw [7, 19] (fun va vi wr => ∃ k : Nat, k ≤ m ∧ vi = .int .i64 k ∧ Hid (wr.ownsRow w.heap.size 3 1 va (1 :: lineP line k).length ((1 :: lineP line k).map ic)) ∧ Hid (Below w.heap.size w wr)) (fun _ vi _ => m - (intOf vi).toNat)
  case atStart => exact ⟨0, Nat.zero_le _, by go_num, HO1.out, HB1.out⟩
  case round =>
    obtain ⟨k, hk, rfl, hown, HB⟩ := hrel
    rename World => wr
    by_cases hlt : k < m
    · have hkl : k < line.length := by have := HGL.out; omega
      have hk2 : (k : Int) < (m : Int) := by omega
      obtain ⟨A, x1, c0, _⟩ := rd_one elVec ic (HV.out.later HB.out) rfl k hkl
      rw [HGL.out] at x1
      obtain ⟨y, hy⟩ : ∃ y, line[k] = y := ⟨_, rfl⟩
      have hnx := lineP_succ line k
      rw [List.getD_eq_getElem?_getD, List.getElem?_eq_getElem hkl, hy] at hnx
      simp only [Option.getD_some] at hnx
      rw [hy] at c0
      have hle := lineP_len line k
      clear hy
      by_cases hp : 0 < y
      · rw [if_pos hp] at hnx
        have hp2 : decide (0 < y) = true := decide_eq_true hp
        obtain ⟨K, hK⟩ : ∃ K, 1 :: lineP line k = K := ⟨_, rfl⟩
        have hKl : K.length ≤ k + 1 := by rw [← hK, List.length_cons]; omega
        have HNX : Hid (1 :: lineP line (k + 1) = K ++ [(k : Int) + 1]) := by show _ = _; rw [hnx, ← hK]; rfl
        rw [hK] at hown
        obtain ⟨kk, hkk⟩ : ∃ kk, K.length = kk := ⟨_, rfl⟩
        have hown4 := hown.out
        rw [hkk] at hown4 hKl
        have HKK := Lib.hid hkk
        have hbs := HB.out.size
        clear hnx hK hown hkk
        go_wp2_with (at_builtin; refine wpList_push elInts rfl _ _ rfl rfl rfl hown4 rfl rfl (by unfold maxLen; omega) (by omega) hbs ?_; intro v5 w5 hown5 hgrow5 hblk5)
        have HB5 := Lib.hid (below_own HB.out hown4 (Nat.le_refl _) hgrow5)
        have HO5 : Hid (w5.ownsRow w.heap.size 3 1 v5 (1 :: lineP line (k + 1)).length ((1 :: lineP line (k + 1)).map ic)) := by show World.ownsRow _ _ _ _ _ _ _; rw [HNX.out, List.length_append, HKK.out, List.map_append]; exact hown5
        clear hown4 hown5 hgrow5 hblk5 c0 x1
        go_wp2_with fail
        go_roundw
        case rel => exact ⟨k + 1, by omega, by go_num, HO5.out, HB5.out⟩
        case measure => simp [intOf]; omega
      · rw [if_neg hp, List.append_nil] at hnx
        have hp2 : decide (0 < y) = false := decide_eq_false hp
        have hO5 := hown.out
        rw [← hnx] at hO5
        have HO5 := Lib.hid hO5
        clear hnx hown hO5
        go_wp2_with fail
        go_roundw
        case rel => exact ⟨k + 1, by omega, by go_num, HO5.out, HB.out⟩
        case measure => simp [intOf]; omega
    · have hkn : m = k := by omega
      subst hkn
      have hk2 : ¬ (m : Int) < (m : Int) := by omega
      obtain ⟨P1, hP1⟩ : ∃ P1, 1 :: lineP line m = P1 := ⟨_, rfl⟩
      have hle := lineP_len line m
      have hPl : P1.length ≤ m + 1 := by rw [← hP1, List.length_cons]; omega
      rw [hP1] at hown
      have HP1 := Lib.hid hP1
      have HPL := Lib.hid hPl
      have HBA := Lib.hid HB.out
      clear hP1 hle hPl
      go_wp2_with fail
      go_loopw [7, 34] (fun va vi wq => ∃ k : Nat, k ≤ no ∧ vi = .int .i64 k ∧ Hid (wq.ownsRow w.heap.size 3 1 va (P1 ++ (owns.take k).map OwnS.dev).length ((P1 ++ (owns.take k).map OwnS.dev).map ic)) ∧ Hid (Below w.heap.size w wq)) (fun _ vi _ => no - (intOf vi).toNat)
      case atStart => exact ⟨0, Nat.zero_le _, by go_num, Lib.hid (by simpa using hown.out), HBA.out⟩
      case round =>
        clear hown
        obtain ⟨k, hk, rfl, hown, HB⟩ := hrel
        rename World => wq
        by_cases hlt : k < no
        · have hkl : k < owns.length := by have := HOL.out; omega
          have hk2 : (k : Int) < (no : Int) := by omega
          obtain ⟨y, hy⟩ : ∃ y, owns[k] = y := ⟨_, rfl⟩
          obtain ⟨b, oo, x1, c0, c1⟩ := rd_own (HO.out.later HB.out) rfl k hkl hy
          rw [HOL.out] at x1
          have hnx : (owns.take (k + 1)).map OwnS.dev = (owns.take k).map OwnS.dev ++ [y.dev] := by rw [List.take_succ_eq_append_getElem hkl, hy, List.map_append]; rfl
          obtain ⟨K, hK⟩ : ∃ K, P1 ++ (owns.take k).map OwnS.dev = K := ⟨_, rfl⟩
          have hKl : K.length ≤ m + 1 + k := by rw [← hK, List.length_append, List.length_map, List.length_take]; have := HPL.out; omega
          have HNX : Hid (P1 ++ (owns.take (k + 1)).map OwnS.dev = K ++ [y.dev]) := by show _ = _; rw [hnx, ← hK, List.append_assoc]
          rw [hK] at hown
          obtain ⟨kk, hkk⟩ : ∃ kk, K.length = kk := ⟨_, rfl⟩
          obtain ⟨w3, hw3⟩ : ∃ w3, wq.alloc (.cells #[.int .i64 y.dev, .slice y.ra y.rn y.rc] 71) = w3 := ⟨_, rfl⟩
          have hbw3 : Below wq.heap.size wq w3 := by rw [← hw3]; exact below_alloc _ _
          have bw3 : Bx w3 wq.heap.size #[.int .i64 y.dev, .slice y.ra y.rn y.rc] 71 := by rw [← hw3]; exact bx_new rfl
          have Hw3 := Lib.hid hw3
          have HQ := Lib.hid bw3
          have HB3 := Lib.hid (below_then HB.out hbw3)
          have hown4 := own_later hown.out hbw3
          rw [hkk] at hown4 hKl
          have HKK := Lib.hid hkk
          have hbs := HB3.out.size
          clear hnx hK hown hkk hy hw3 hbw3 bw3
          go_upto_region 11 with fail
          rw [Hw3.out]
          clear c0 c1 x1
          have q0 := cell_of_box HQ.out 0 rfl
          go_wp2_with (at_builtin; refine wpList_push elInts rfl _ _ rfl rfl rfl hown4 rfl rfl (by unfold maxLen; omega) (by omega) hbs ?_; intro v5 w5 hown5 hgrow5 hblk5)
          have HB5 := Lib.hid (below_own HB3.out hown4 (Nat.le_refl _) hgrow5)
          have HO5 : Hid (w5.ownsRow w.heap.size 3 1 v5 (P1 ++ (owns.take (k + 1)).map OwnS.dev).length ((P1 ++ (owns.take (k + 1)).map OwnS.dev).map ic)) := by show World.ownsRow _ _ _ _ _ _ _; rw [HNX.out, List.length_append, HKK.out, List.map_append]; exact hown5
          clear hown4 hown5 hgrow5 hblk5 q0
          go_wp2_with fail
          go_roundw
          case rel => exact ⟨k + 1, by omega, by go_num, HO5.out, HB5.out⟩
          case measure => simp [intOf]; omega
        · have hkn : no = k := by omega
          subst hkn
          have hk2 : ¬ (no : Int) < (no : Int) := by omega
          rw [List.take_of_length_le (by have := HOL.out; omega)] at hown
          obtain ⟨P2, hP2⟩ : ∃ P2, P1 ++ owns.map OwnS.dev = P2 := ⟨_, rfl⟩
          have hPl : P2.length ≤ m + 1 + no := by rw [← hP2, List.length_append, List.length_map]; have := HPL.out; have := HOL.out; omega
          rw [hP2] at hown
          have HP2 := Lib.hid hP2
          have HPL2 := Lib.hid hPl
          have HBA2 := Lib.hid HB.out
          clear hP2 hPl
          go_wp2_with fail
          go_loopw [7, 46] (fun va vi wr => ∃ k : Nat, k ≤ n ∧ vi = .int .i64 k ∧ Hid (wr.ownsRow w.heap.size 3 1 va (P2 ++ (l.take k).flatMap handD).length ((P2 ++ (l.take k).flatMap handD).map ic)) ∧ Hid (Below w.heap.size w wr)) (fun _ vi _ => n - (intOf vi).toNat)
          case atStart => exact ⟨0, Nat.zero_le _, by go_num, Lib.hid (by simpa using hown.out), HBA2.out⟩
          case round =>
            clear hown
            obtain ⟨k, hk, rfl, hown, HB⟩ := hrel
            rename World => wr
            by_cases hlt : k < n
            · have hkl : k < l.length := by have := HLN.out; omega
              have hk2 : (k : Int) < (n : Int) := by omega
              obtain ⟨x, hx⟩ : ∃ x, l[k] = x := ⟨_, rfl⟩
              have hxr : x.Reads w := HL.out.2 x (hx ▸ List.getElem_mem hkl)
              obtain ⟨b, oo, x1, c0, c1, c2, c3, c4, c5, c6, c7, c8, c9, c10, _⟩ := rd_txs ((HL.out.later HB.out).1) rfl k hkl hx
              rw [HLN.out] at x1
              have hnx := flat_take_next handD hkl hx
              have hin := flat_take_in handD hkl hx
              obtain ⟨K, hK⟩ : ∃ K, P2 ++ (l.take k).flatMap handD = K := ⟨_, rfl⟩
              have hKl : K.length + (handD x).length ≤ m + 1 + no + 100000 := by rw [← hK, List.length_append]; have := HPL2.out; have := H3.out; omega
              have hKd : (handD x).length = x.hands.length + 1 := by simp [handD]
              have HNX : Hid (P2 ++ (l.take (k + 1)).flatMap handD = K ++ handD x) := by show _ = _; rw [hnx, ← hK, List.append_assoc]
              rw [hK] at hown
              obtain ⟨kk, hkk⟩ : ∃ kk, K.length = kk := ⟨_, rfl⟩
              obtain ⟨w3, hw3⟩ : ∃ w3, wr.alloc (.cells #[.int .i64 x.dev, .int .i64 x.seq, .int .i64 x.time, .slice x.ad x.nd x.cd, .slice x.ao x.no x.co, .slice x.ae x.ne x.ce, .bool x.fm, .slice x.ah x.nh x.ch, .int .i64 x.note, .int .i64 x.whom, .int .i64 x.upto] 31) = w3 := ⟨_, rfl⟩
              have hbw3 : Below wr.heap.size wr w3 := by rw [← hw3]; exact below_alloc _ _
              have bw3 : Bx w3 wr.heap.size #[.int .i64 x.dev, .int .i64 x.seq, .int .i64 x.time, .slice x.ad x.nd x.cd, .slice x.ao x.no x.co, .slice x.ae x.ne x.ce, .bool x.fm, .slice x.ah x.nh x.ch, .int .i64 x.note, .int .i64 x.whom, .int .i64 x.upto] 31 := by rw [← hw3]; exact bx_new rfl
              have Hw3 := Lib.hid hw3
              have HQ := Lib.hid bw3
              have HB3 := Lib.hid (below_then HB.out hbw3)
              have hown4 := own_later hown.out hbw3
              have hlt4 := fun (g : Nat) hg => (hown.out.lt g hg).2
              have HXR := Lib.hid hxr
              have hnl := hxr.hnh
              have HNL := Lib.hid hnl
              rw [hkk] at hown4
              rw [hKd, hkk] at hKl
              have hKb : kk + x.nh + 1 ≤ m + 1 + no + 100000 := by rw [hnl]; omega
              have HKK := Lib.hid hkk
              have hbs := HB3.out.size
              have HHR := Lib.hid hxr.hands
              have hnhc : x.nh ≤ x.ch := by obtain ⟨_, _, hv, h1, h2, -, -⟩ := id HHR.out; cases hv; exact h1
              have hnhm : x.ch ≤ 9223372036854775807 := by obtain ⟨_, _, hv, h1, h2, -, -⟩ := id HHR.out; cases hv; exact h2
              clear hnx hin hK hown hkk hx hw3 hbw3 bw3 hxr hKl hKd hnl
              go_upto_region 16 with fail
              rw [Hw3.out]
              clear c0 c1 c2 c3 c4 c5 c6 c7 c8 c9 c10 x1
              have q0 := cell_of_box HQ.out 0 rfl
              go_wp2_with (at_builtin; refine wpList_push elInts rfl _ _ rfl rfl rfl hown4 rfl rfl (by unfold maxLen; omega) (by omega) hbs ?_; intro v5 w5 hown5 hgrow5 hblk5; have HQ5 := Lib.hid (bx_grown hgrow5 HQ.out (fun e' => by have := hlt4 _ e'; omega)); have q7 := cell_of_box HQ5.out 7 rfl)
              have HB5 := Lib.hid (below_own HB3.out hown4 (Nat.le_refl _) hgrow5)
              have hO5 : w5.ownsRow w.heap.size 3 1 v5 (K ++ (x.dev :: (x.hands.take 0).map HandT.to)).length ((K ++ (x.dev :: (x.hands.take 0).map HandT.to)).map ic) := by rw [List.length_append, HKK.out, List.map_append]; exact hown5
              have HO5 := Lib.hid hO5
              clear hown4 hown5 hgrow5 hblk5 q0 hO5 hlt4 q7
              go_loopw [7, 58] (fun va vi wq => ∃ j : Nat, j ≤ x.nh ∧ vi = .int .i64 j ∧ Hid (wq.ownsRow w.heap.size 3 1 va (K ++ (x.dev :: (x.hands.take j).map HandT.to)).length ((K ++ (x.dev :: (x.hands.take j).map HandT.to)).map ic)) ∧ Hid (Below w.heap.size w wq)) (fun _ vi _ => x.nh - (intOf vi).toNat)
              case atStart => exact ⟨0, Nat.zero_le _, by go_num, HO5.out, HB5.out⟩
              case round =>
                obtain ⟨j, hj, rfl, hown, HB⟩ := hrel
                rename World => wq
                by_cases hltj : j < x.nh
                · have hjl : j < x.hands.length := by have := HNL.out; omega
                  have hj2 : (j : Int) < (x.nh : Int) := by omega
                  obtain ⟨h, hh⟩ : ∃ h, x.hands[j] = h := ⟨_, rfl⟩
                  obtain ⟨b, oo, x1, c0, c1, c2, c3, c4, c5, c6, _⟩ := rd_hand (HHR.out.later HB.out) HNL.out j hjl hh
                  have hnx : (x.hands.take (j + 1)).map HandT.to = (x.hands.take j).map HandT.to ++ [h.to] := by rw [List.take_succ_eq_append_getElem hjl, hh, List.map_append]; rfl
                  obtain ⟨K2, hK2⟩ : ∃ K2, K ++ (x.dev :: (x.hands.take j).map HandT.to) = K2 := ⟨_, rfl⟩
                  have hKl : K2.length = kk + 1 + j := by rw [← hK2, List.length_append, List.length_cons, List.length_map, List.length_take, HKK.out]; omega
                  have HNX2 : Hid (K ++ (x.dev :: (x.hands.take (j + 1)).map HandT.to) = K2 ++ [h.to]) := by show _ = _; rw [hnx, ← hK2]; simp
                  rw [hK2] at hown
                  obtain ⟨w6, hw6⟩ : ∃ w6, wq.alloc (.cells #[.int .i64 h.to, .int .i64 h.kind, .int .i64 h.table, .int .i64 h.col, .int .i64 h.lo, .int .i64 h.hi, .int .i64 h.amt] 75) = w6 := ⟨_, rfl⟩
                  have hbw6 : Below wq.heap.size wq w6 := by rw [← hw6]; exact below_alloc _ _
                  have bw6 : Bx w6 wq.heap.size #[.int .i64 h.to, .int .i64 h.kind, .int .i64 h.table, .int .i64 h.col, .int .i64 h.lo, .int .i64 h.hi, .int .i64 h.amt] 75 := by rw [← hw6]; exact bx_new rfl
                  have Hw6 := Lib.hid hw6
                  have HQ6 := Lib.hid bw6
                  have HB6 := Lib.hid (below_then HB.out hbw6)
                  have hown4 := own_later hown.out hbw6
                  have HKL := Lib.hid hKl
                  rw [hKl] at hown4
                  have hbs := HB6.out.size
                  clear hnx hK2 hown hh hw6 hbw6 bw6 hKl
                  go_upto_region 20 with fail
                  rw [Hw6.out]
                  clear c0 c1 c2 c3 c4 c5 c6 x1
                  have q0 := cell_of_box HQ6.out 0 rfl
                  go_wp2_with (at_builtin; refine wpList_push elInts rfl _ _ rfl rfl rfl hown4 rfl rfl (by unfold maxLen; omega) (by omega) hbs ?_; intro v5 w5 hown5 hgrow5 hblk5)
                  have HB7 := Lib.hid (below_own HB6.out hown4 (Nat.le_refl _) hgrow5)
                  have hO7 : w5.ownsRow w.heap.size 3 1 v5 (K ++ (x.dev :: (x.hands.take (j + 1)).map HandT.to)).length ((K ++ (x.dev :: (x.hands.take (j + 1)).map HandT.to)).map ic) := by rw [HNX2.out, List.length_append, HKL.out, List.map_append]; exact hown5
                  have HO7 := Lib.hid hO7
                  clear hown4 hown5 hgrow5 hblk5 q0 hO7
                  go_wp2_with fail
                  go_roundw
                  case rel => exact ⟨j + 1, by omega, by go_num, HO7.out, HB7.out⟩
                  case measure => simp [intOf]; omega
                · have hjn : j = x.nh := by omega
                  have hj2 : ¬ (j : Int) < (x.nh : Int) := by omega
                  have hfull : K ++ (x.dev :: (x.hands.take j).map HandT.to) = P2 ++ (l.take (k + 1)).flatMap handD := by rw [List.take_of_length_le (by have := HNL.out; omega), HNX.out]; rfl
                  have hO8 := hown.out
                  rw [hfull] at hO8
                  have HO8 := Lib.hid hO8
                  clear hfull hown hO8 hjn
                  go_wp2_with fail
                  go_roundw
                  case rel => exact ⟨k + 1, by omega, by go_num, HO8.out, HB.out⟩
                  case measure => simp [intOf]; omega
            · have hkn : n = k := by omega
              subst hkn
              have hk2 : ¬ (n : Int) < (n : Int) := by omega
              rw [List.take_of_length_le (by have := HLN.out; omega)] at hown
              obtain ⟨A, hA⟩ : ∃ A, P2 ++ l.flatMap handD = A := ⟨_, rfl⟩
              have hAl : A.length ≤ m + 1 + no + 100000 := by rw [← hA, List.length_append]; have := HPL2.out; have := H3.out; omega
              rw [hA] at hown
              obtain ⟨kk, hkk⟩ : ∃ kk, A.length = kk := ⟨_, rfl⟩
              have hown4 := hown.out
              rw [hkk] at hown4 hAl
              obtain ⟨a1, c1, rfl, _⟩ := Rd.of_own hown4
              have HMT : Hid (memT line owns l = keepI (fun d => !inQ3 d 1 64) (Lib.compact (sortZ A))) := by
                show _ = _
                unfold memT memL keepI
                rw [← hA, ← HP2.out, ← HP1.out, HGL.out]
                simp
              have HST := Lib.hid (sortO_any w.heap.size a1 kk c1 A _ hkk.symm hown4 HB.out.size (by omega))
              have HSL : Hid ((sortZ A).length = kk) := by show _ = _; rw [(sortZ_perm A).length_eq]; exact hkk
              clear hown hA hown4 hkk
              go_wp2_with fail
              refine HST.out.mono ?_
              rintro e w5 ⟨rfl, hown5, hb5, -⟩
              have HCP := Lib.hid (compO_any w.heap.size a1 kk c1 (sortZ A) w5 HSL.out.symm hown5 (by have := HSL.out; omega))
              have HB5 := Lib.hid (HB.out.trans hb5)
              clear hown5 hb5 HST
              go_wp2_with fail
              refine HCP.out.mono ?_
              rintro e w6 ⟨⟨a6, c6, rfl, hown6, hb6⟩, -⟩
              have HB6 := Lib.hid (HB5.out.trans hb6)
              have hcl := compact_len (sortZ A)
              have HDF := Lib.hid (delI_any mem_test w6 HB6.out hown6 (by have := HSL.out; omega))
              clear hown6 hb6 hcl HCP
              go_wp2_with fail
              refine HDF.out.mono ?_
              rintro e w7 ⟨v7, rfl, hr7, hb7⟩
              rw [← HMT.out] at hr7
              have HR7 := Lib.hid hr7
              have HB7 := Lib.hid hb7
              clear hr7 hb7 HDF
              go_wp2_with fail
              go_ret
              exact ⟨_, rfl, HR7.out, HB7.out⟩
end Go.Proofs.YtnolbabpkhdpmaaGreat
/- Layer 20 (past): agreed, Bound. (printed by tools/gen_yg.py) -/
namespace Go.Proofs.YtnolbabpkhdpmaaGreat
open Go.RowKit Go.Sort Go.Shelf Go.BigFrame
attribute [local go_sem] Oper.semAt_some

/-- Does a transaction agree to a word? -/
def agreeQ (d s m : Int) (x : TxS) : Bool := x.note == 1 && (x.whom == m && hasV x.deps ⟨d, s⟩)
def agreedT (l : List TxS) (who d s m : Int) : Bool := (devT who l).any (agreeQ d s m)
def AgI (w : World) (n0 : Nat) (who : Int) (p : TxS → Bool) (RBX : Array Value) (l : List TxS) (pre : List {y : TxS // y ∈ devT who l}) (W : World) : Prop :=
  (∀ x ∈ pre, p x.1 = false) ∧ Below n0 w W ∧ W.heap[n0 + 2 + 1]? = some (.cells #[.int .i64 who] 3 (0, 0)) ∧ Bx W n0 RBX 31 ∧ Bx W (n0 + 1) #[.bool false] 4
def AgX (w : World) (n0 : Nat) (who : Int) (p : TxS → Bool) (l : List TxS) (c : Code) (pre : List {y : TxS // y ∈ devT who l}) (W : World) : Prop :=
  c = .ret ∧ (∃ x ∈ pre, p x.1 = true) ∧ Below n0 w W ∧ Bx W (n0 + 1) #[.bool true] 4
theorem AgI.own {w : World} {n0 : Nat} {who : Int} {p : TxS → Bool} {RBX : Array Value} {l : List TxS} (hn : w.heap.size = n0) (B : Nat) (hB : n0 ≤ B) : OwnFrom B (AgI w n0 who p RBX l) := by
  intro s W W' row hs hg hr
  obtain ⟨h1, h4, h5, h6, h7⟩ := hs
  have hr' := fun r e => (hr r e).2
  subst hn
  exact ⟨h1, h4.grown hg h4.size (fun k hk => Nat.le_trans hB (hr k hk).1), bx_kept h5 hg hr', bx_kept h6 hg hr', bx_kept h7 hg hr'⟩
theorem AgX.own {w : World} {n0 : Nat} {who : Int} {p : TxS → Bool} {l : List TxS} (hn : w.heap.size = n0) (B : Nat) (hB : n0 ≤ B) (c : Code) : OwnFrom B (AgX w n0 who p l c) := by
  intro s W W' row hs hg hr
  obtain ⟨h1, h2, h4, h7⟩ := hs
  have hr' := fun r e => (hr r e).2
  subst hn
  exact ⟨h1, h2, h4.grown hg h4.size (fun k hk => Nat.le_trans hB (hr k hk).1), bx_kept h7 hg hr'⟩
theorem keeps_below {W V : World} (h : Below W.heap.size W V) : KeepsOthers W V :=
  ⟨h.size, fun k _ hk _ => (h.block k (Array.getElem?_eq_some_iff.1 hk).1).trans hk⟩
theorem ag_keep {w W V : World} {n0 : Nat} {who : Int} {p : TxS → Bool} {RBX : Array Value} {l : List TxS} {pre : List {y : TxS // y ∈ devT who l}} {x : {y : TxS // y ∈ devT who l}} (B : Nat) (_ : w.heap.size = n0) (h : AgI w n0 who p RBX l pre W) (hx : p x.1 = false) (hb : Below W.heap.size W V) :
    KeepsFrom B W V ∧ KpS w.heap.size (n0 + 2 + 1) (.cells #[.int .i64 who] 3 (0, 0)) W V ∧ AgI w n0 who p RBX l (pre ++ [x]) V := by
  obtain ⟨h1, h4, h5, h6, h7⟩ := h
  have hs := h4.size
  have hlt := (Array.getElem?_eq_some_iff.1 h7).1
  refine ⟨(keeps_below hb).from _, ⟨hb.mono (by omega), fun e => bx_later hb e⟩, fun y hy => ?_, h4.trans (hb.mono (by omega)), bx_later hb h5, bx_later hb h6, bx_later hb h7⟩
  rcases List.mem_append.1 hy with hy | hy
  · exact h1 y hy
  · rw [List.mem_singleton.1 hy]; exact hx
theorem ag_stop {w W V : World} {n0 : Nat} {who : Int} {p : TxS → Bool} {RBX : Array Value} {l : List TxS} {pre : List {y : TxS // y ∈ devT who l}} {x : {y : TxS // y ∈ devT who l}} (B : Nat) (h : AgI w n0 who p RBX l pre W) (hx : p x.1 = true) (hb : Below W.heap.size W V) :
    KeepsFrom B W (V.setCell ⟨n0 + 1, 0, none⟩ (.bool true)) ∧ AgX w n0 who p l .ret (pre ++ [x]) (V.setCell ⟨n0 + 1, 0, none⟩ (.bool true)) := by
  obtain ⟨h1, h4, h5, h6, h7⟩ := h
  have hlt := (Array.getElem?_eq_some_iff.1 h7).1
  refine ⟨((keeps_below hb).trans (KeepsOthers.setCell _ _ _)).from _, rfl, ⟨x, by simp, hx⟩, (h4.trans (hb.mono (by omega))).setCell (p := ⟨n0 + 1, 0, none⟩) (by show n0 ≤ n0 + 1; omega) _, bx_setc (bx_later hb h7) 0 _⟩
set_option maxRecDepth 100000 in
set_option maxHeartbeats 8000000 in
theorem agreed_any {dev seq time note whom upto : Int} {fm : Bool} {ad ao ae ah : Option Addr} {nd cd no co ne ce nh ch : Nat} {vl : Value} {l : List TxS} {who : Int} (w : World) (hl : LRd w vl l) (hn : l.length ≤ 1000000) :
    Calls Tryz.prog 60 #[vl, .int .i64 who, .agg #[.int .i64 dev, .int .i64 seq, .int .i64 time, .slice ad nd cd, .slice ao no co, .slice ae ne ce, .bool fm, .slice ah nh ch, .int .i64 note, .int .i64 whom, .int .i64 upto]] w fun e w' => e = .returned (.bool (agreedT l who dev seq whom)) ∧ Below w.heap.size w w' := by
  obtain ⟨la, lc, rfl, hnc, hcm, -, -⟩ := id hl.1
  unfold maxLen at hcm
  obtain ⟨n, hln⟩ : ∃ n, l.length = n := ⟨_, rfl⟩
  have HL := Lib.hid hl
  have HLN := Lib.hid hln
  have HN := Lib.hid hn
  rw [hln] at hnc ⊢
  obtain ⟨n0, hn0⟩ : ∃ n0, w.heap.size = n0 := ⟨_, rfl⟩
  obtain ⟨w1, hw1⟩ : ∃ w1, (w.alloc (.cells #[.int .i64 dev, .int .i64 seq, .int .i64 time, .slice ad nd cd, .slice ao no co, .slice ae ne ce, .bool fm, .slice ah nh ch, .int .i64 note, .int .i64 whom, .int .i64 upto] 31)).alloc (.cells #[.bool false] 4) = w1 := ⟨_, rfl⟩
  have hb1 : Below w.heap.size w w1 := by rw [← hw1]; exact below_alloc_then (below_alloc _ _)
  have hsz : w1.heap.size = n0 + 2 := by rw [← hw1, ← hn0]; simp
  have b0 : Bx w1 n0 #[.int .i64 dev, .int .i64 seq, .int .i64 time, .slice ad nd cd, .slice ao no co, .slice ae ne ce, .bool fm, .slice ah nh ch, .int .i64 note, .int .i64 whom, .int .i64 upto] 31 := by rw [← hw1]; exact bx_later (below_alloc _ _) (bx_new hn0.symm)
  have b1 : Bx w1 (n0 + 1) #[.bool false] 4 := by rw [← hw1]; exact bx_new (by simp [hn0])
  obtain ⟨w3, hw3⟩ : ∃ w3, (w1.alloc (.cells #[.slice la n lc] 24)).alloc (.cells #[.int .i64 who] 3) = w3 := ⟨_, rfl⟩
  have hb3 : Below w1.heap.size w1 w3 := by rw [← hw3]; exact below_alloc_then (below_alloc _ _)
  have hsz3 : w3.heap.size = n0 + 4 := by rw [← hw3]; simp [hsz]
  have hQ1 : Bx w3 (n0 + 2) #[.slice la n lc] 24 := by rw [← hw3]; exact bx_later (below_alloc _ _) (bx_new hsz.symm)
  have hQ2 : Bx w3 (n0 + 2 + 1) #[.int .i64 who] 3 := by rw [← hw3]; exact bx_new (by simp [hsz])
  have HW1 := Lib.hid hw1
  have HW3 := Lib.hid hw3
  have HN0 := Lib.hid hn0
  have HSZ := Lib.hid hsz
  have HSZ3 := Lib.hid hsz3
  have HB3 := Lib.hid (below_then hb1 hb3)
  have HQ1 := Lib.hid hQ1
  have HQ2 := Lib.hid hQ2
  have B0 := Lib.hid (bx_later hb3 b0)
  have B1 := Lib.hid (bx_later hb3 b1)
  clear hl hln hn hw1 hw3 hb1 hsz b0 b1 hb3 hsz3 hQ1 hQ2
  obtain ⟨p, hp⟩ : ∃ p, agreeQ dev seq whom = p := ⟨_, rfl⟩
  have HP := Lib.hid hp
  clear hp
  have hmix : Tryz.prog.follows .mixedOrders = true := by kernel_rfl
  refine (callsIn_wide (n := 6)).1 ?_
  refine callsIn_of_wp_marks Tryz.func60 rfl trivial ?_ rfl
  simp only [Tryz.ntmps60, List.size_toArray, List.length_cons, List.length_nil, Nat.reduceAdd, Nat.reduceSub, Array.replicate_succ, Array.replicate_zero, List.push_toArray, List.append_toArray, List.nil_append, List.cons_append]
  gi_wp2_with fail
  rw [HW1.out]
  gi_wp2_with fail
  refine ⟨trivial, ?_⟩
  refine (callsIn_wide.2 (of_any la n lc who _)).mono ?_
  rintro e w' ⟨rfl, rfl⟩
  gi_wp2_with fail
  rw [HW3.out, HSZ.out]
  refine wpIn_rangeFunc_ownH (F := Fence.wide) rfl (by decide) (gf := 57) (lb := #[.pointer (some ⟨n0 + 2, 0, none⟩), .pointer (some ⟨n0 + 2 + 1, 0, none⟩)]) rfl trivial (enters_of Tryz.func57 (by kernel_rfl) rfl)
    (of1_stopsA 5 (by decide) w who (.slice la n lc) l (n0 + 2) (n0 + 2 + 1) w3 HB3.out (cell_of_box HQ1.out 0 rfl) HQ2.out (HLN.out ▸ HL.out) HN.out) (fun h k => h.t k) (KpS.b (by have := HN0.out; have := HSZ3.out; omega) (by have := HSZ3.out; omega)) (Below.refl _ w3) (fun _ => rfl)
    (AgI w n0 who p #[.int .i64 dev, .int .i64 seq, .int .i64 time, .slice ad nd cd, .slice ao no co, .slice ae ne ce, .bool fm, .slice ah nh ch, .int .i64 note, .int .i64 whom, .int .i64 upto] l) (AgX w n0 who p l) (AgI.own HN0.out _ (by have := HSZ3.out; omega)) (AgX.own HN0.out _ (by have := HSZ3.out; omega))
    ⟨(fun x hx => nomatch hx), HN0.out ▸ HB3.out, HQ2.out, B0.out, B1.out⟩
    (fun x a' W => ∃ q, Bx W q #[.int .i64 x.1.dev, .int .i64 x.1.seq, .int .i64 x.1.time, .slice x.1.ad x.1.nd x.1.cd, .slice x.1.ao x.1.no x.1.co, .slice x.1.ae x.1.ne x.1.ce, .bool x.1.fm, .slice x.1.ah x.1.nh x.1.ch, .int .i64 x.1.note, .int .i64 x.1.whom, .int .i64 x.1.upto] 31 ∧ a' = { tmps := #[.slice la n lc, .int .i64 who, .agg #[.int .i64 dev, .int .i64 seq, .int .i64 time, .slice ad nd cd, .slice ao no co, .slice ae ne ce, .bool fm, .slice ah nh ch, .int .i64 note, .int .i64 whom, .int .i64 upto], undef, undef, .pointer (some ⟨n0, 0, none⟩), .pointer (some ⟨n0 + 1, 0, none⟩), .pointer (some ⟨q, 0, none⟩), .slice la n lc, .int .i64 who, .func (.func 57) #[] #[.pointer (some ⟨n0 + 2, 0, none⟩), .pointer (some ⟨n0 + 2 + 1, 0, none⟩)], .agg #[.int .i64 x.1.dev, .int .i64 x.1.seq, .int .i64 x.1.time, .slice x.1.ad x.1.nd x.1.cd, .slice x.1.ao x.1.no x.1.co, .slice x.1.ae x.1.ne x.1.ce, .bool x.1.fm, .slice x.1.ah x.1.nh x.1.ch, .int .i64 x.1.note, .int .i64 x.1.whom, .int .i64 x.1.upto], undef, undef, undef, undef, undef, undef, undef, undef, undef, undef, undef, undef, undef, undef, undef, undef, undef], defers := [] })
    (fun x a' _ X Y row hs hg hr => by obtain ⟨q, h1, h2⟩ := hs; exact ⟨q, bx_kept h1 hg (fun r e => (hr r e).2), h2⟩)
    ?assign ?body ?done ?stop
  case assign =>
    rintro l' pre x W K ⟨h1, h4, h5, h6, h7⟩ hK
    gi_wp2_with fail
    have hszW : n0 ≤ W.heap.size := HN0.out ▸ h4.size
    have ha := below_alloc W (.cells #[.int .i64 x.1.dev, .int .i64 x.1.seq, .int .i64 x.1.time, .slice x.1.ad x.1.nd x.1.cd, .slice x.1.ao x.1.no x.1.co, .slice x.1.ae x.1.ne x.1.ce, .bool x.1.fm, .slice x.1.ah x.1.nh x.1.ch, .int .i64 x.1.note, .int .i64 x.1.whom, .int .i64 x.1.upto] 31)
    exact hK _ _ ((KeepsOthers.alloc _ _).from _) ⟨(HN0.out ▸ (Below.refl n0 W).alloc hszW _), fun e => (Below.heap_alloc W _ _ (Array.getElem?_eq_some_iff.1 e).1).trans e⟩ ⟨h1, h4.alloc hszW _, bx_later ha h5, bx_later ha h6, bx_later ha h7⟩ ⟨W.heap.size, bx_new rfl, rfl⟩
  case body =>
    rintro l' pre x a' W hl' ⟨r, hr⟩ ⟨h1, h4, h5, h6, h7⟩ ⟨q, hX, rfl⟩ hlt
    have HI : Hid (AgI w n0 who p #[.int .i64 dev, .int .i64 seq, .int .i64 time, .slice ad nd cd, .slice ao no co, .slice ae ne ce, .bool fm, .slice ah nh ch, .int .i64 note, .int .i64 whom, .int .i64 upto] l pre W) := ⟨h1, h4, h5, h6, h7⟩
    have hxr : Rd W (.slice x.1.ad x.1.nd x.1.cd) x.1.deps.length (x.1.deps.map ic) := ((HL.out.2 x.1 (List.mem_filter.1 x.2).1).deps').later (by rw [HN0.out]; exact h4)
    have HXR := Lib.hid hxr
    have H7 := Lib.hid h7
    have e0 := cell_of_box hX 0 rfl
    have e1 := cell_of_box hX 1 rfl
    have e2 := cell_of_box hX 2 rfl
    have e3 := cell_of_box hX 3 rfl
    have e4 := cell_of_box hX 4 rfl
    have e5 := cell_of_box hX 5 rfl
    have e6 := cell_of_box hX 6 rfl
    have e7 := cell_of_box hX 7 rfl
    have e8 := cell_of_box hX 8 rfl
    have e9 := cell_of_box hX 9 rfl
    have e10 := cell_of_box hX 10 rfl
    have d0 := cell_of_box h6 0 rfl
    have d1 := cell_of_box h6 1 rfl
    have d2 := cell_of_box h6 2 rfl
    have d3 := cell_of_box h6 3 rfl
    have d4 := cell_of_box h6 4 rfl
    have d5 := cell_of_box h6 5 rfl
    have d6 := cell_of_box h6 6 rfl
    have d7 := cell_of_box h6 7 rfl
    have d8 := cell_of_box h6 8 rfl
    have d9 := cell_of_box h6 9 rfl
    have d10 := cell_of_box h6 10 rfl
    have HX := Lib.hid hX
    clear hX h1 h4 h5 h6 h7 hxr hl' hr hlt
    have hPX : p x.1 = (x.1.note == 1 && (x.1.whom == whom && hasV x.1.deps ⟨dev, seq⟩)) := by rw [← HP.out]; rfl
    have HBD : Hid (Below W.heap.size W W.drew) := (Below.refl _ _).drew
    by_cases c1 : x.1.note = 1
    case neg =>
      have c1' : (x.1.note == 1) = false := by simp [c1]
      have HPX : Hid (p x.1 = false) := by show _ = _; rw [hPX, c1']; rfl
      clear hPX c1
      gi_wp2_with fail
      refine wpIn_region_flow (l' := l') (by kernel_rfl) (by kernel_rfl) 17 [(14, ⟨fun v => v = .bool true, fun _ _ _ _ => True⟩), (15, ⟨fun v => v = .bool true, fun _ _ _ _ => True⟩)] (by kernel_rfl) ?_ ?_ ?_
      · intro x hx
        simp only [List.mem_cons, List.not_mem_nil, or_false] at hx
        rcases hx with rfl | rfl
        · exact ⟨_, rfl⟩
        · exact ⟨_, rfl⟩
      · intro x hx v lo hi w w' h hb
        simp only [List.mem_cons, List.not_mem_nil, or_false] at hx
        rcases hx with rfl | rfl
        · exact trivial
        · exact trivial
      · intro lo hi
        have ke0 := cell_regrown e0
        have ke1 := cell_regrown e1
        have ke2 := cell_regrown e2
        have ke3 := cell_regrown e3
        have ke4 := cell_regrown e4
        have ke5 := cell_regrown e5
        have ke6 := cell_regrown e6
        have ke7 := cell_regrown e7
        have ke8 := cell_regrown e8
        have ke9 := cell_regrown e9
        have ke10 := cell_regrown e10
        have kd0 := cell_regrown d0
        have kd1 := cell_regrown d1
        have kd2 := cell_regrown d2
        have kd3 := cell_regrown d3
        have kd4 := cell_regrown d4
        have kd5 := cell_regrown d5
        have kd6 := cell_regrown d6
        have kd7 := cell_regrown d7
        have kd8 := cell_regrown d8
        have kd9 := cell_regrown d9
        have kd10 := cell_regrown d10
        refine flowW_plain rfl ?_
        go_big_quiet_step (fail)
        refine wpQuiet_nil ?_
        refine flowW_plain rfl ?_
        go_big_quiet_step (fail)
        refine wpQuiet_nil ?_
        refine flowW_plain rfl ?_
        go_big_quiet_step (fail)
        refine wpQuiet_nil ?_
        refine flowW_plain rfl ?_
        go_big_quiet_step (fail)
        refine wpQuiet_nil ?_
        refine flowW_skip rfl ?_
        go_big_quiet_step (fail)
        refine wpQuiet_nil ?_
        refine flowW_skip rfl ?_
        go_big_quiet_step (fail)
        refine wpQuiet_nil ?_
        refine flowW_skip rfl ?_
        go_big_quiet_step (fail)
        refine wpQuiet_nil ?_
        refine flowW_skip rfl ?_
        go_big_quiet_step (fail)
        refine wpQuiet_nil ?_
        refine flowW_skip rfl ?_
        go_big_quiet_step (fail)
        refine wpQuiet_nil ?_
        refine flowW_plain rfl ?_
        go_big_quiet_step (fail)
        refine wpQuiet_nil ?_
        refine flowW_plain rfl ?_
        go_big_quiet_step (fail)
        refine wpQuiet_nil ?_
        refine flowW_skip rfl ?_
        go_big_quiet_step (fail)
        refine wpQuiet_nil ?_
        refine flowW_skip rfl ?_
        go_big_quiet_step (fail)
        refine wpQuiet_nil ?_
        refine flowW_skip rfl ?_
        go_big_quiet_step (fail)
        refine wpQuiet_nil ?_
        refine flowW_skip rfl ?_
        go_big_quiet_step (fail)
        refine wpQuiet_nil ?_
        refine flowW_skip rfl ?_
        go_big_quiet_step (fail)
        refine wpQuiet_nil ?_
        refine flowW_plain rfl ?_
        go_big_quiet_step (fail)
        refine wpQuiet_nil ?_
        refine flowW_end fun wr hwr hF hD => ?_
        clear ke0 ke1 ke2 ke3 ke4 ke5 ke6 ke7 ke8 ke9 ke10 kd0 kd1 kd2 kd3 kd4 kd5 kd6 kd7 kd8 kd9 kd10
        simp only [List.drop_succ_cons, List.drop_zero]
        have HBR := Lib.hid hwr
        clear hwr hF hD e0 e1 e2 e3 e4 e5 e6 e7 e8 e9 e10 d0 d1 d2 d3 d4 d5 d6 d7 d8 d9 d10
        refine wpList_nil ?_
        simp only [onlyN]
        gi_wp2_with fail
        exact ag_keep _ HN0.out HI.out HPX.out HBR.out
    have c1' : (x.1.note == 1) = true := by simp [c1]
    by_cases c2 : x.1.whom = whom
    case neg =>
      have c2' : (x.1.whom == whom) = false := by simp [c2]
      have HPX : Hid (p x.1 = false) := by show _ = _; rw [hPX, c1', c2']; rfl
      clear hPX c1 c2
      gi_wp2_with fail
      refine wpIn_region_flow (l' := l') (by kernel_rfl) (by kernel_rfl) 17 [(14, ⟨fun v => v = .bool true, fun _ _ _ _ => True⟩), (15, ⟨fun v => v = .bool true, fun _ _ _ _ => True⟩)] (by kernel_rfl) ?_ ?_ ?_
      · intro x hx
        simp only [List.mem_cons, List.not_mem_nil, or_false] at hx
        rcases hx with rfl | rfl
        · exact ⟨_, rfl⟩
        · exact ⟨_, rfl⟩
      · intro x hx v lo hi w w' h hb
        simp only [List.mem_cons, List.not_mem_nil, or_false] at hx
        rcases hx with rfl | rfl
        · exact trivial
        · exact trivial
      · intro lo hi
        have ke0 := cell_regrown e0
        have ke1 := cell_regrown e1
        have ke2 := cell_regrown e2
        have ke3 := cell_regrown e3
        have ke4 := cell_regrown e4
        have ke5 := cell_regrown e5
        have ke6 := cell_regrown e6
        have ke7 := cell_regrown e7
        have ke8 := cell_regrown e8
        have ke9 := cell_regrown e9
        have ke10 := cell_regrown e10
        have kd0 := cell_regrown d0
        have kd1 := cell_regrown d1
        have kd2 := cell_regrown d2
        have kd3 := cell_regrown d3
        have kd4 := cell_regrown d4
        have kd5 := cell_regrown d5
        have kd6 := cell_regrown d6
        have kd7 := cell_regrown d7
        have kd8 := cell_regrown d8
        have kd9 := cell_regrown d9
        have kd10 := cell_regrown d10
        refine flowW_plain rfl ?_
        go_big_quiet_step (fail)
        refine wpQuiet_nil ?_
        refine flowW_plain rfl ?_
        go_big_quiet_step (fail)
        refine wpQuiet_nil ?_
        refine flowW_plain rfl ?_
        go_big_quiet_step (fail)
        refine wpQuiet_nil ?_
        refine flowW_plain rfl ?_
        go_big_quiet_step (fail)
        refine wpQuiet_nil ?_
        refine flowW_plain rfl ?_
        go_big_quiet_step (fail)
        refine wpQuiet_nil ?_
        refine flowW_plain rfl ?_
        go_big_quiet_step (fail)
        refine wpQuiet_nil ?_
        refine flowW_plain rfl ?_
        go_big_quiet_step (fail)
        refine wpQuiet_nil ?_
        refine flowW_plain rfl ?_
        go_big_quiet_step (fail)
        refine wpQuiet_nil ?_
        refine flowW_plain rfl ?_
        go_big_quiet_step (fail)
        refine wpQuiet_nil ?_
        refine flowW_plain rfl ?_
        go_big_quiet_step (fail)
        refine wpQuiet_nil ?_
        refine flowW_plain rfl ?_
        go_big_quiet_step (fail)
        refine wpQuiet_nil ?_
        refine flowW_skip rfl ?_
        go_big_quiet_step (fail)
        refine wpQuiet_nil ?_
        refine flowW_skip rfl ?_
        go_big_quiet_step (fail)
        refine wpQuiet_nil ?_
        refine flowW_skip rfl ?_
        go_big_quiet_step (fail)
        refine wpQuiet_nil ?_
        refine flowW_skip rfl ?_
        go_big_quiet_step (fail)
        refine wpQuiet_nil ?_
        refine flowW_skip rfl ?_
        go_big_quiet_step (fail)
        refine wpQuiet_nil ?_
        refine flowW_plain rfl ?_
        go_big_quiet_step (fail)
        refine wpQuiet_nil ?_
        refine flowW_end fun wr hwr hF hD => ?_
        clear ke0 ke1 ke2 ke3 ke4 ke5 ke6 ke7 ke8 ke9 ke10 kd0 kd1 kd2 kd3 kd4 kd5 kd6 kd7 kd8 kd9 kd10
        simp only [List.drop_succ_cons, List.drop_zero]
        have HBR := Lib.hid hwr
        clear hwr hF hD e0 e1 e2 e3 e4 e5 e6 e7 e8 e9 e10 d0 d1 d2 d3 d4 d5 d6 d7 d8 d9 d10
        refine wpList_nil ?_
        simp only [onlyN]
        gi_wp2_with fail
        exact ag_keep _ HN0.out HI.out HPX.out HBR.out
    have c2' : (x.1.whom == whom) = true := by simp [c2]
    obtain ⟨r, hr⟩ : ∃ r, hasV x.1.deps ⟨dev, seq⟩ = r := ⟨_, rfl⟩
    have HPX : Hid (p x.1 = r) := by show _ = _; rw [hPX, c1', c2', hr]; rfl
    have HR := Lib.hid hr
    clear hPX c1 c2 hr
    gi_wp2_with fail
    refine wpIn_region_flow (l' := l') (by kernel_rfl) (by kernel_rfl) 17 [(14, ⟨fun v => v = .agg #[.int .i64 dev, .int .i64 seq], fun _ _ _ _ => True⟩), (15, ⟨fun v => v = .bool r, fun _ _ _ _ => True⟩)] (by kernel_rfl) ?_ ?_ ?_
    · intro x hx
      simp only [List.mem_cons, List.not_mem_nil, or_false] at hx
      rcases hx with rfl | rfl
      · exact ⟨_, rfl⟩
      · exact ⟨_, rfl⟩
    · intro x hx v lo hi w w' h hb
      simp only [List.mem_cons, List.not_mem_nil, or_false] at hx
      rcases hx with rfl | rfl
      · exact trivial
      · exact trivial
    · intro lo hi
      have ke0 := cell_regrown e0
      have ke1 := cell_regrown e1
      have ke2 := cell_regrown e2
      have ke3 := cell_regrown e3
      have ke4 := cell_regrown e4
      have ke5 := cell_regrown e5
      have ke6 := cell_regrown e6
      have ke7 := cell_regrown e7
      have ke8 := cell_regrown e8
      have ke9 := cell_regrown e9
      have ke10 := cell_regrown e10
      have kd0 := cell_regrown d0
      have kd1 := cell_regrown d1
      have kd2 := cell_regrown d2
      have kd3 := cell_regrown d3
      have kd4 := cell_regrown d4
      have kd5 := cell_regrown d5
      have kd6 := cell_regrown d6
      have kd7 := cell_regrown d7
      have kd8 := cell_regrown d8
      have kd9 := cell_regrown d9
      have kd10 := cell_regrown d10
      refine flowW_plain rfl ?_
      go_big_quiet_step (fail)
      refine wpQuiet_nil ?_
      refine flowW_plain rfl ?_
      go_big_quiet_step (fail)
      refine wpQuiet_nil ?_
      refine flowW_plain rfl ?_
      go_big_quiet_step (fail)
      refine wpQuiet_nil ?_
      refine flowW_plain rfl ?_
      go_big_quiet_step (fail)
      refine wpQuiet_nil ?_
      refine flowW_plain rfl ?_
      go_big_quiet_step (fail)
      refine wpQuiet_nil ?_
      refine flowW_plain rfl ?_
      go_big_quiet_step (fail)
      refine wpQuiet_nil ?_
      refine flowW_plain rfl ?_
      go_big_quiet_step (fail)
      refine wpQuiet_nil ?_
      refine flowW_plain rfl ?_
      go_big_quiet_step (fail)
      refine wpQuiet_nil ?_
      refine flowW_plain rfl ?_
      go_big_quiet_step (fail)
      refine wpQuiet_nil ?_
      refine flowW_plain rfl ?_
      go_big_quiet_step (fail)
      refine wpQuiet_nil ?_
      refine flowW_plain rfl ?_
      go_big_quiet_step (fail)
      refine wpQuiet_nil ?_
      refine flowW_plain rfl ?_
      go_big_quiet_step (fail)
      refine wpQuiet_nil ?_
      refine flowW_plain rfl ?_
      go_big_quiet_step (fail)
      refine wpQuiet_nil ?_
      refine flowW_plain rfl ?_
      go_big_quiet_step (fail)
      refine wpQuiet_nil ?_
      refine flowW_call rfl rfl ?_ ?_
      · intro W hW hF K hK
        clear ke0 ke1 ke2 ke3 ke4 ke5 ke6 ke7 ke8 ke9 ke10 kd0 kd1 kd2 kd3 kd4 kd5 kd6 kd7 kd8 kd9 kd10
        go_wp2_with fail
        refine (dot_any _).mono ?_
        rintro e wq ⟨rfl, hbq⟩
        go_wp2_with fail
        exact hK _ _ rfl trivial hbq
      rintro v rfl K hK
      go_simp
      refine hK _ ?_
      clear hK K
      refine flowW_call rfl rfl ?_ ?_
      · intro W hW hF K hK
        clear ke0 ke1 ke2 ke3 ke4 ke5 ke6 ke7 ke8 ke9 ke10 kd0 kd1 kd2 kd3 kd4 kd5 kd6 kd7 kd8 kd9 kd10
        go_wp2_with fail
        refine (hasD_b r HR.out (HXR.out.later hW)).mono ?_
        rintro e wq ⟨rfl, hbq⟩
        go_wp2_with fail
        exact hK _ _ rfl trivial hbq
      rintro v rfl K hK
      go_simp
      refine hK _ ?_
      clear hK K
      refine flowW_plain rfl ?_
      go_big_quiet_step (fail)
      refine wpQuiet_nil ?_
      refine flowW_end fun wr hwr hF hD => ?_
      clear ke0 ke1 ke2 ke3 ke4 ke5 ke6 ke7 ke8 ke9 ke10 kd0 kd1 kd2 kd3 kd4 kd5 kd6 kd7 kd8 kd9 kd10
      simp only [List.drop_succ_cons, List.drop_zero]
      have HBR := Lib.hid hwr
      clear hwr hF hD e0 e1 e2 e3 e4 e5 e6 e7 e8 e9 e10 d0 d1 d2 d3 d4 d5 d6 d7 d8 d9 d10
      refine wpList_nil ?_
      simp only [onlyN]
      have t0 := cell_of_box (bx_later HBR.out H7.out) 0 rfl
      have f0 := frozen_of_box (bx_later HBR.out H7.out) 0
      cases r
      · gi_wp2_with fail
        exact ag_keep _ HN0.out HI.out HPX.out HBR.out
      · gi_wp2_with fail
        exact ag_stop _ HI.out HPX.out HBR.out
  case done =>
    rintro D ys W hD hys ⟨h1, h4, h5, h6, h7⟩ hK
    have HRR : Hid (agreedT l who dev seq whom = false) := by
      show _ = _
      unfold agreedT
      rw [HP.out, ← hys, List.any_eq_false]
      intro y hy
      obtain ⟨z, hz, rfl⟩ := List.mem_map.1 hy
      rw [h1 z hz]; simp
    have t0 := cell_of_box h7 0 rfl
    have f0 := frozen_of_box h7 0
    have hD1 : n0 + 4 ≤ D := by have := HSZ3.out; omega
    have hKV : (W.setCell ⟨n0 + 1, 0, none⟩ (.bool false)).heap[D]? = some (.deferred (some [])) := (KeepsOthers.setCell W ⟨n0 + 1, 0, none⟩ (.bool false)).same D _ hK rfl
    have hV : Bx (W.setCell ⟨n0 + 1, 0, none⟩ (.bool false)) (n0 + 1) #[.bool false] 4 := bx_setc h7 0 _
    have hB5 : Below w.heap.size w (W.setCell ⟨n0 + 1, 0, none⟩ (.bool false)) := by rw [HN0.out]; exact h4.setCell (p := ⟨n0 + 1, 0, none⟩) (by show n0 ≤ n0 + 1; omega) _
    have HKV := Lib.hid hKV
    have HV := Lib.hid hV
    have HB5 := Lib.hid hB5
    clear hys h1 h4 h5 h6 h7 hK hKV hV hB5
    gi_wp2_with fail
    have hKV := HKV.out
    have hV := HV.out
    have hB5 := HB5.out
    obtain ⟨rr, hrr⟩ : ∃ rr, false = rr := ⟨_, rfl⟩
    rw [hrr] at HRR
    obtain ⟨V, hVV⟩ : ∃ V, W.setCell ⟨n0 + 1, 0, none⟩ (.bool false) = V := ⟨_, rfl⟩
    rw [hVV] at hKV hV hB5 ⊢
    rw [hrr] at hV
    clear hVV t0 f0 HKV HV HB5
    refine ⟨by simp, .inl ⟨_, _, rfl, run_takeDeferred hKV, ?_⟩⟩
    have hV2 : Bx (V.putObj D (.deferred none)) (n0 + 1) #[.bool rr] 4 := (World.putObj_heap_other (by omega)).trans hV
    have hB6 : Below w.heap.size w (V.putObj D (.deferred none)) := hB5.trans (belowK_b (w := w) (Nat.le_refl _) V D _ _ (by rw [HN0.out]; omega) hKV rfl rfl)
    obtain ⟨W2, hW2⟩ : ∃ W2, V.putObj D (.deferred none) = W2 := ⟨_, rfl⟩
    rw [hW2] at hV2 hB6 ⊢
    have z0 := cell_of_box hV2 0 rfl
    have HB6 := Lib.hid hB6
    clear hKV hV hB5 hW2 hV2 hB6
    refine ⟨.bool rr, by simp [results, Tryz.results60, go_sem, z0], ?_⟩
    exact ⟨by rw [HRR.out], HB6.out⟩
  case stop =>
    rintro D c pre W hD - ⟨rfl, ⟨y, hy, hpy⟩, h4, h7⟩ hK
    have HRR : Hid (agreedT l who dev seq whom = true) := by
      show _ = _
      unfold agreedT
      rw [HP.out]
      exact List.any_eq_true.2 ⟨y.1, y.2, hpy⟩
    have hD1 : n0 + 4 ≤ D := by have := HSZ3.out; omega
    have HK := Lib.hid hK
    have H7 := Lib.hid h7
    have H4 := Lib.hid h4
    clear hy hpy h4 h7 hK
    gi_wp2_with fail
    have hKV := HK.out
    have hV := H7.out
    have hB5 : Below w.heap.size w W := by rw [HN0.out]; exact H4.out
    obtain ⟨rr, hrr⟩ : ∃ rr, true = rr := ⟨_, rfl⟩
    rw [hrr] at HRR hV
    obtain ⟨V, hVV⟩ : ∃ V, W = V := ⟨_, rfl⟩
    rw [hVV] at hKV hV hB5 ⊢
    clear hVV HK H7 H4
    refine ⟨by simp, .inl ⟨_, _, rfl, run_takeDeferred hKV, ?_⟩⟩
    have hV2 : Bx (V.putObj D (.deferred none)) (n0 + 1) #[.bool rr] 4 := (World.putObj_heap_other (by omega)).trans hV
    have hB6 : Below w.heap.size w (V.putObj D (.deferred none)) := hB5.trans (belowK_b (w := w) (Nat.le_refl _) V D _ _ (by rw [HN0.out]; omega) hKV rfl rfl)
    obtain ⟨W2, hW2⟩ : ∃ W2, V.putObj D (.deferred none) = W2 := ⟨_, rfl⟩
    rw [hW2] at hV2 hB6 ⊢
    have z0 := cell_of_box hV2 0 rfl
    have HB6 := Lib.hid hB6
    clear hKV hV hB5 hW2 hV2 hB6
    refine ⟨.bool rr, by simp [results, Tryz.results60, go_sem, z0], ?_⟩
    exact ⟨by rw [HRR.out], HB6.out⟩
end Go.Proofs.YtnolbabpkhdpmaaGreat
/- Layer 20 (past): Bound; slices.Contains. (printed by tools/gen_yb.py) -/
namespace Go.Proofs.YtnolbabpkhdpmaaGreat
open Go.RowKit Go.Sort Go.BigFrame
attribute [local irreducible] FlowW

def boundT (l : List TxS) (whom : Int) : Int × Bool := (((wordT l whom).getD default).upto, (wordT l whom).isSome)
set_option maxRecDepth 100000 in
set_option maxHeartbeats 8000000 in
theorem bound_any {vl : Value} {l : List TxS} {whom : Int} (w : World) (hl : LRd w vl l) (hn : l.length ≤ 1000000) :
    Calls Tryz.prog 9 #[vl, .int .i64 whom] w fun e w' => e = .returned (.tuple #[.int .i64 (boundT l whom).1, .bool (boundT l whom).2]) ∧ Below w.heap.size w w' := by
  have HC := Lib.hid (word_any (whom := whom) w hl hn)
  obtain ⟨la, lc, rfl, -⟩ := id hl.1
  clear hl hn
  go_enter Tryz.func9, Tryz.ntmps9
  go_wp2_with fail
  refine HC.out.mono ?_
  rintro e w1 ⟨d, hd, rfl, hb1⟩
  have HD := Lib.hid hd
  have HB1 := Lib.hid hb1
  obtain ⟨s, hs⟩ : ∃ s, (wordT l whom).isSome = s := ⟨_, rfl⟩
  have HS := Lib.hid hs
  rw [hs]
  clear hd hb1 hs
  go_wp2_with fail
  refine bodyPost_ret (v := .tuple #[.int .i64 d.upto, .bool s]) (by simp [results, Tryz.results9, go_sem]) rfl ⟨?_, below_then HB1.out (below_alloc _ _)⟩
  unfold boundT
  rw [← HD.out, HS.out]
def idxL (l : List Int) (x : Int) : Option Nat := l.findIdx? (· == x)
set_option maxRecDepth 100000 in
set_option maxHeartbeats 8000000 in
theorem index_any {v : Value} {l : List Int} {x : Int} (w : World) (h : Rd w v l.length (l.map ic)) :
    Calls Tryz.prog 77 #[v, .int .i64 x] w fun e w' => ((e = .returned (.int .i64 (-1)) ∧ x ∉ l) ∨ (x ∈ l ∧ ∃ k : Nat, e = .returned (.int .i64 k))) ∧ w = w' := by
  obtain ⟨ao, c, rfl, hnc, hcm, -, -⟩ := id h
  unfold maxLen at hcm
  obtain ⟨n, hln⟩ : ∃ n, l.length = n := ⟨_, rfl⟩
  have HA := Lib.hid h
  have HLN := Lib.hid hln
  rw [hln] at hnc ⊢
  clear h hln
  go_enter Tryz.func77, Tryz.ntmps77
  go_wp2
  go_loop [8] (fun vi => ∃ k : Nat, k ≤ n ∧ vi = .int .i64 k ∧ Hid (x ∉ l.take k)) (fun vi => n - (intOf vi).toNat)
  case atStart => exact ⟨0, Nat.zero_le _, rfl, (by show ¬ _; simp)⟩
  case round =>
    obtain ⟨k, hk, rfl, hno⟩ := hrel
    by_cases hlt : k < n
    · have hkl : k < l.length := by have := HLN.out; omega
      have hk2 : (k : Int) < (n : Int) := by omega
      obtain ⟨A, x1, c0, _⟩ := rd_one elInts ic HA.out rfl k hkl
      rw [HLN.out] at x1
      obtain ⟨y, hy⟩ : ∃ y, l[k] = y := ⟨_, rfl⟩
      have hmem : y ∈ l := hy ▸ List.getElem_mem hkl
      have hnx : l.take (k + 1) = l.take k ++ [y] := by rw [List.take_succ_eq_append_getElem hkl, hy]
      rw [hy] at c0
      have HM := Lib.hid hmem
      have HNX := Lib.hid hnx
      clear hy hmem hnx
      by_cases hxy : x = y
      · subst hxy
        go_wp2
        go_ret
        exact ⟨.inr ⟨HM.out, k, rfl⟩, rfl⟩
      · have e1 : (x == y) = false := by simp [hxy]
        have e2 : (y == x) = false := by simp [Ne.symm hxy]
        have HNO : Hid (x ∉ l.take (k + 1)) := by show ¬ _; rw [HNX.out]; simp; exact ⟨hno.out, hxy⟩
        clear hxy
        go_wp2
        go_round
        case rel => exact ⟨k + 1, by omega, by go_num, HNO.out⟩
        case measure => simp [intOf]; omega
    · have hkn : n = k := by omega
      subst hkn
      have hk2 : ¬ (n : Int) < (n : Int) := by omega
      have hno2 := hno.out
      rw [List.take_of_length_le (by have := HLN.out; omega)] at hno2
      have HNO := Lib.hid hno2
      clear hno2
      go_wp2
      go_ret
      exact ⟨.inl ⟨rfl, HNO.out⟩, rfl⟩
theorem containsN_any {v : Value} {l : List Int} {x : Int} (w : World) (h : Rd w v l.length (l.map ic)) :
    Calls Tryz.prog 59 #[v, .int .i64 x] w fun e w' => e = .returned (.bool (decide (x ∈ l))) ∧ w = w' := by
  have HI := Lib.hid (index_any (x := x) w h)
  obtain ⟨ao, c, rfl, _⟩ := id h
  clear h
  go_enter Tryz.func59, Tryz.ntmps59
  go_wp2_with fail
  refine HI.out.mono ?_
  rintro e w1 ⟨⟨rfl, hno⟩ | ⟨hm, k, rfl⟩, rfl⟩
  · have HF : Hid (decide (x ∈ l) = false) := decide_eq_false hno
    clear hno
    go_wp2_with fail
    go_ret
    exact ⟨ret_bool HF.out.symm, rfl⟩
  · have HF : Hid (decide (x ∈ l) = true) := decide_eq_true hm
    have hge : decide ((0 : Int) ≤ (k : Int)) = true := decide_eq_true (by omega)
    clear hm
    go_wp2_with fail
    go_ret
    exact ⟨ret_bool HF.out.symm, rfl⟩
end Go.Proofs.YtnolbabpkhdpmaaGreat
/- Layer 20 (past): retires. (printed by tools/gen_yx.py) -/
namespace Go.Proofs.YtnolbabpkhdpmaaGreat
open Go.RowKit Go.Sort Go.BigFrame
attribute [local irreducible] FlowW

/-- May a device be retired? -/
def retiresQ (line : List Int) (owns : List OwnS) (p : List TxS) (dev whom upto : Int) (deps : List Int) (ld ls lw : Int) : Bool :=
  decide (dev = 1) && (decide (ofV deps whom = upto) && (memT line owns p).all fun d => decide (d ∈ retT p ++ [1, whom]) || agreedT p d ld ls lw)
set_option maxRecDepth 100000 in
set_option maxHeartbeats 8000000 in
theorem retires_any {dev seq time note whom upto : Int} {fm : Bool} {ad ao ae ah : Option Addr} {nd cd no co ne ce nh ch : Nat} {dev2 seq2 time2 note2 whom2 upto2 : Int} {fm2 : Bool} {ad2 ao2 ae2 ah2 : Option Addr} {nd2 cd2 no2 co2 ne2 ce2 nh2 ch2 : Nat} {vv vo vl : Value} {line deps : List Int} {owns : List OwnS} {l : List TxS} (w : World) (hv : Rd w vv line.length (line.map ic)) (ho : Rd w vo owns.length (owns.flatMap OwnS.cs)) (hl : LRd w vl l) (hd : Rd w (.slice ad nd cd) deps.length (deps.map ic)) (h1 : line.length ≤ 100000) (h2 : owns.length ≤ 100000) (h3 : (l.flatMap handD).length ≤ 100000) (hn : l.length ≤ 100000) :
    Calls Tryz.prog 36 #[vv, vo, vl, .agg #[.int .i64 dev, .int .i64 seq, .int .i64 time, .slice ad nd cd, .slice ao no co, .slice ae ne ce, .bool fm, .slice ah nh ch, .int .i64 note, .int .i64 whom, .int .i64 upto], .agg #[.int .i64 dev2, .int .i64 seq2, .int .i64 time2, .slice ad2 nd2 cd2, .slice ao2 no2 co2, .slice ae2 ne2 ce2, .bool fm2, .slice ah2 nh2 ch2, .int .i64 note2, .int .i64 whom2, .int .i64 upto2]] w fun e w' => e = .returned (.bool (retiresQ line owns l dev whom upto deps dev2 seq2 whom2)) ∧ Below w.heap.size w w' := by
  obtain ⟨ga, gc, rfl, -⟩ := id hv
  obtain ⟨oa, oc, rfl, -⟩ := id ho
  obtain ⟨la, lc, rfl, -⟩ := id hl.1
  obtain ⟨w1, hw1⟩ : ∃ w1, (w.alloc (.cells #[.int .i64 dev, .int .i64 seq, .int .i64 time, .slice ad nd cd, .slice ao no co, .slice ae ne ce, .bool fm, .slice ah nh ch, .int .i64 note, .int .i64 whom, .int .i64 upto] 31)).alloc (.cells #[.int .i64 dev2, .int .i64 seq2, .int .i64 time2, .slice ad2 nd2 cd2, .slice ao2 no2 co2, .slice ae2 ne2 ce2, .bool fm2, .slice ah2 nh2 ch2, .int .i64 note2, .int .i64 whom2, .int .i64 upto2] 31) = w1 := ⟨_, rfl⟩
  have hb1 : Below w.heap.size w w1 := by rw [← hw1]; exact below_alloc_then (below_alloc _ _)
  have bt : Bx w1 w.heap.size #[.int .i64 dev, .int .i64 seq, .int .i64 time, .slice ad nd cd, .slice ao no co, .slice ae ne ce, .bool fm, .slice ah nh ch, .int .i64 note, .int .i64 whom, .int .i64 upto] 31 := by rw [← hw1]; exact bx_later (below_alloc _ _) (bx_new rfl)
  have bl : Bx w1 (w.heap.size + 1) #[.int .i64 dev2, .int .i64 seq2, .int .i64 time2, .slice ad2 nd2 cd2, .slice ao2 no2 co2, .slice ae2 ne2 ce2, .bool fm2, .slice ah2 nh2 ch2, .int .i64 note2, .int .i64 whom2, .int .i64 upto2] 31 := by rw [← hw1]; exact bx_new (by simp)
  have HW1 := Lib.hid hw1
  have HB1 := Lib.hid hb1
  have BT := Lib.hid bt
  have BL := Lib.hid bl
  have HV := Lib.hid (hv.later hb1)
  have HO := Lib.hid (ho.later hb1)
  have HL := Lib.hid (hl.later hb1)
  have HD := Lib.hid (hd.later hb1)
  have H1 := Lib.hid h1
  have H2 := Lib.hid h2
  have H3 := Lib.hid h3
  have HN := Lib.hid hn
  clear hv ho hl hd h1 h2 h3 hn hw1 hb1 bt bl
  go_enter Tryz.func36, Tryz.ntmps36
  go_upto_region 1 with fail
  rw [HW1.out]
  have p0 := cell_of_box (bx_later (Below.refl w1.heap.size w1) BT.out) 0 rfl
  have z0 := cell_of_box (bx_later (Below.refl w1.heap.size w1) BL.out) 0 rfl
  have p1 := cell_of_box (bx_later (Below.refl w1.heap.size w1) BT.out) 1 rfl
  have z1 := cell_of_box (bx_later (Below.refl w1.heap.size w1) BL.out) 1 rfl
  have p2 := cell_of_box (bx_later (Below.refl w1.heap.size w1) BT.out) 2 rfl
  have z2 := cell_of_box (bx_later (Below.refl w1.heap.size w1) BL.out) 2 rfl
  have p3 := cell_of_box (bx_later (Below.refl w1.heap.size w1) BT.out) 3 rfl
  have z3 := cell_of_box (bx_later (Below.refl w1.heap.size w1) BL.out) 3 rfl
  have p4 := cell_of_box (bx_later (Below.refl w1.heap.size w1) BT.out) 4 rfl
  have z4 := cell_of_box (bx_later (Below.refl w1.heap.size w1) BL.out) 4 rfl
  have p5 := cell_of_box (bx_later (Below.refl w1.heap.size w1) BT.out) 5 rfl
  have z5 := cell_of_box (bx_later (Below.refl w1.heap.size w1) BL.out) 5 rfl
  have p6 := cell_of_box (bx_later (Below.refl w1.heap.size w1) BT.out) 6 rfl
  have z6 := cell_of_box (bx_later (Below.refl w1.heap.size w1) BL.out) 6 rfl
  have p7 := cell_of_box (bx_later (Below.refl w1.heap.size w1) BT.out) 7 rfl
  have z7 := cell_of_box (bx_later (Below.refl w1.heap.size w1) BL.out) 7 rfl
  have p8 := cell_of_box (bx_later (Below.refl w1.heap.size w1) BT.out) 8 rfl
  have z8 := cell_of_box (bx_later (Below.refl w1.heap.size w1) BL.out) 8 rfl
  have p9 := cell_of_box (bx_later (Below.refl w1.heap.size w1) BT.out) 9 rfl
  have z9 := cell_of_box (bx_later (Below.refl w1.heap.size w1) BL.out) 9 rfl
  have p10 := cell_of_box (bx_later (Below.refl w1.heap.size w1) BT.out) 10 rfl
  have z10 := cell_of_box (bx_later (Below.refl w1.heap.size w1) BL.out) 10 rfl
  by_cases c1 : dev = 1
  case neg =>
    have c1' : (dev != 1) = true := by simp [c1]
    have HRR : Hid (retiresQ line owns l dev whom upto deps dev2 seq2 whom2 = false) := by show _ = _; unfold retiresQ; rw [decide_eq_false c1]; rfl
    clear c1
    refine wp_region_flow (by kernel_rfl) 13 [(8, ⟨fun v => v = .int .i64 0, fun _ _ _ _ => True⟩)] (by kernel_rfl) ?_ ?_ ?_
    · intro x hx
      simp only [List.mem_cons, List.not_mem_nil, or_false] at hx
      subst hx
      exact ⟨_, rfl⟩
    · intro x hx v lo hi w w' h hb
      simp only [List.mem_cons, List.not_mem_nil, or_false] at hx
      subst hx
      exact trivial
    · intro lo hi
      have kp0 := cell_regrown p0
      have kp1 := cell_regrown p1
      have kp2 := cell_regrown p2
      have kp3 := cell_regrown p3
      have kp4 := cell_regrown p4
      have kp5 := cell_regrown p5
      have kp6 := cell_regrown p6
      have kp7 := cell_regrown p7
      have kp8 := cell_regrown p8
      have kp9 := cell_regrown p9
      have kp10 := cell_regrown p10
      have kz0 := cell_regrown z0
      have kz1 := cell_regrown z1
      have kz2 := cell_regrown z2
      have kz3 := cell_regrown z3
      have kz4 := cell_regrown z4
      have kz5 := cell_regrown z5
      have kz6 := cell_regrown z6
      have kz7 := cell_regrown z7
      have kz8 := cell_regrown z8
      have kz9 := cell_regrown z9
      have kz10 := cell_regrown z10
      refine flowW_plain rfl ?_
      go_big_quiet_step (fail)
      refine wpQuiet_nil ?_
      refine flowW_plain rfl ?_
      go_big_quiet_step (fail)
      refine wpQuiet_nil ?_
      refine flowW_plain rfl ?_
      go_big_quiet_step (fail)
      refine wpQuiet_nil ?_
      refine flowW_plain rfl ?_
      go_big_quiet_step (fail)
      refine wpQuiet_nil ?_
      refine flowW_skip rfl ?_
      go_big_quiet_step (fail)
      refine wpQuiet_nil ?_
      refine flowW_skip rfl ?_
      go_big_quiet_step (fail)
      refine wpQuiet_nil ?_
      refine flowW_skip rfl ?_
      go_big_quiet_step (fail)
      refine wpQuiet_nil ?_
      refine flowW_skip rfl ?_
      go_big_quiet_step (fail)
      refine wpQuiet_nil ?_
      refine flowW_skip rfl ?_
      go_big_quiet_step (fail)
      refine wpQuiet_nil ?_
      refine flowW_skip rfl ?_
      go_big_quiet_step (fail)
      refine wpQuiet_nil ?_
      refine flowW_skip rfl ?_
      go_big_quiet_step (fail)
      refine wpQuiet_nil ?_
      refine flowW_skip rfl ?_
      go_big_quiet_step (fail)
      refine wpQuiet_nil ?_
      refine flowW_plain rfl ?_
      go_big_quiet_step (fail)
      refine wpQuiet_nil ?_
      refine flowW_end fun w2 hw2 hF hD => ?_
      clear kp0 kp1 kp2 kp3 kp4 kp5 kp6 kp7 kp8 kp9 kp10 kz0 kz1 kz2 kz3 kz4 kz5 kz6 kz7 kz8 kz9 kz10
      simp only [List.drop_succ_cons, List.drop_zero]
      clear hF hD p0 p1 p2 p3 p4 p5 p6 p7 p8 p9 p10 z0 z1 z2 z3 z4 z5 z6 z7 z8 z9 z10
      have HB2 := Lib.hid (below_then HB1.out hw2)
      go_wp2_with fail
      go_ret
      exact ⟨ret_bool HRR.out.symm, HB2.out⟩
  subst c1
  obtain ⟨f, hf⟩ : ∃ f, ofV deps whom = f := ⟨_, rfl⟩
  have HF0 := Lib.hid hf
  by_cases c2 : f = upto
  case neg =>
    have c2' : (f != upto) = true := by simp [c2]
    have HRR : Hid (retiresQ line owns l 1 whom upto deps dev2 seq2 whom2 = false) := by show _ = _; unfold retiresQ; rw [hf, decide_eq_false c2]; simp
    clear c2 hf
    refine wp_region_flow (by kernel_rfl) 13 [(8, ⟨fun v => v = .int .i64 f, fun _ _ _ _ => True⟩)] (by kernel_rfl) ?_ ?_ ?_
    · intro x hx
      simp only [List.mem_cons, List.not_mem_nil, or_false] at hx
      subst hx
      exact ⟨_, rfl⟩
    · intro x hx v lo hi w w' h hb
      simp only [List.mem_cons, List.not_mem_nil, or_false] at hx
      subst hx
      exact trivial
    · intro lo hi
      have kp0 := cell_regrown p0
      have kp1 := cell_regrown p1
      have kp2 := cell_regrown p2
      have kp3 := cell_regrown p3
      have kp4 := cell_regrown p4
      have kp5 := cell_regrown p5
      have kp6 := cell_regrown p6
      have kp7 := cell_regrown p7
      have kp8 := cell_regrown p8
      have kp9 := cell_regrown p9
      have kp10 := cell_regrown p10
      have kz0 := cell_regrown z0
      have kz1 := cell_regrown z1
      have kz2 := cell_regrown z2
      have kz3 := cell_regrown z3
      have kz4 := cell_regrown z4
      have kz5 := cell_regrown z5
      have kz6 := cell_regrown z6
      have kz7 := cell_regrown z7
      have kz8 := cell_regrown z8
      have kz9 := cell_regrown z9
      have kz10 := cell_regrown z10
      refine flowW_plain rfl ?_
      go_big_quiet_step (fail)
      refine wpQuiet_nil ?_
      refine flowW_plain rfl ?_
      go_big_quiet_step (fail)
      refine wpQuiet_nil ?_
      refine flowW_plain rfl ?_
      go_big_quiet_step (fail)
      refine wpQuiet_nil ?_
      refine flowW_plain rfl ?_
      go_big_quiet_step (fail)
      refine wpQuiet_nil ?_
      refine flowW_plain rfl ?_
      go_big_quiet_step (fail)
      refine wpQuiet_nil ?_
      refine flowW_plain rfl ?_
      go_big_quiet_step (fail)
      refine wpQuiet_nil ?_
      refine flowW_plain rfl ?_
      go_big_quiet_step (fail)
      refine wpQuiet_nil ?_
      refine flowW_plain rfl ?_
      go_big_quiet_step (fail)
      refine wpQuiet_nil ?_
      refine flowW_call rfl rfl ?_ ?_
      · intro W hW hF K hK
        clear kp0 kp1 kp2 kp3 kp4 kp5 kp6 kp7 kp8 kp9 kp10 kz0 kz1 kz2 kz3 kz4 kz5 kz6 kz7 kz8 kz9 kz10
        go_wp2_with fail
        refine (HF0.out ▸ ofV_any _ deps whom _ (HD.out.later hW)).mono ?_
        rintro e wq ⟨rfl, rfl⟩
        go_wp2_with fail
        exact hK _ _ rfl trivial (Below.refl _ _)
      rintro v rfl K hK
      go_simp
      refine hK _ ?_
      clear hK K
      refine flowW_plain rfl ?_
      go_big_quiet_step (fail)
      refine wpQuiet_nil ?_
      refine flowW_plain rfl ?_
      go_big_quiet_step (fail)
      refine wpQuiet_nil ?_
      refine flowW_plain rfl ?_
      go_big_quiet_step (fail)
      refine wpQuiet_nil ?_
      refine flowW_plain rfl ?_
      go_big_quiet_step (fail)
      refine wpQuiet_nil ?_
      refine flowW_end fun w2 hw2 hF hD => ?_
      clear kp0 kp1 kp2 kp3 kp4 kp5 kp6 kp7 kp8 kp9 kp10 kz0 kz1 kz2 kz3 kz4 kz5 kz6 kz7 kz8 kz9 kz10
      simp only [List.drop_succ_cons, List.drop_zero]
      clear hF hD p0 p1 p2 p3 p4 p5 p6 p7 p8 p9 p10 z0 z1 z2 z3 z4 z5 z6 z7 z8 z9 z10
      have HB2 := Lib.hid (below_then HB1.out hw2)
      go_wp2_with fail
      go_ret
      exact ⟨ret_bool HRR.out.symm, HB2.out⟩
  subst c2
  have c2' : (f != f) = false := by simp
  have HRQ : Hid (retiresQ line owns l 1 whom f deps dev2 seq2 whom2 = (memT line owns l).all fun d => decide (d ∈ retT l ++ [1, whom]) || agreedT l d dev2 seq2 whom2) := by show _ = _; unfold retiresQ; rw [hf]; simp
  clear hf
  refine wp_region_flow (by kernel_rfl) 13 [(8, ⟨fun v => v = .int .i64 f, fun _ _ _ _ => True⟩)] (by kernel_rfl) ?_ ?_ ?_
  · intro x hx
    simp only [List.mem_cons, List.not_mem_nil, or_false] at hx
    subst hx
    exact ⟨_, rfl⟩
  · intro x hx v lo hi w w' h hb
    simp only [List.mem_cons, List.not_mem_nil, or_false] at hx
    subst hx
    exact trivial
  · intro lo hi
    have kp0 := cell_regrown p0
    have kp1 := cell_regrown p1
    have kp2 := cell_regrown p2
    have kp3 := cell_regrown p3
    have kp4 := cell_regrown p4
    have kp5 := cell_regrown p5
    have kp6 := cell_regrown p6
    have kp7 := cell_regrown p7
    have kp8 := cell_regrown p8
    have kp9 := cell_regrown p9
    have kp10 := cell_regrown p10
    have kz0 := cell_regrown z0
    have kz1 := cell_regrown z1
    have kz2 := cell_regrown z2
    have kz3 := cell_regrown z3
    have kz4 := cell_regrown z4
    have kz5 := cell_regrown z5
    have kz6 := cell_regrown z6
    have kz7 := cell_regrown z7
    have kz8 := cell_regrown z8
    have kz9 := cell_regrown z9
    have kz10 := cell_regrown z10
    refine flowW_plain rfl ?_
    go_big_quiet_step (fail)
    refine wpQuiet_nil ?_
    refine flowW_plain rfl ?_
    go_big_quiet_step (fail)
    refine wpQuiet_nil ?_
    refine flowW_plain rfl ?_
    go_big_quiet_step (fail)
    refine wpQuiet_nil ?_
    refine flowW_plain rfl ?_
    go_big_quiet_step (fail)
    refine wpQuiet_nil ?_
    refine flowW_plain rfl ?_
    go_big_quiet_step (fail)
    refine wpQuiet_nil ?_
    refine flowW_plain rfl ?_
    go_big_quiet_step (fail)
    refine wpQuiet_nil ?_
    refine flowW_plain rfl ?_
    go_big_quiet_step (fail)
    refine wpQuiet_nil ?_
    refine flowW_plain rfl ?_
    go_big_quiet_step (fail)
    refine wpQuiet_nil ?_
    refine flowW_call rfl rfl ?_ ?_
    · intro W hW hF K hK
      clear kp0 kp1 kp2 kp3 kp4 kp5 kp6 kp7 kp8 kp9 kp10 kz0 kz1 kz2 kz3 kz4 kz5 kz6 kz7 kz8 kz9 kz10
      go_wp2_with fail
      refine (HF0.out ▸ ofV_any _ deps whom _ (HD.out.later hW)).mono ?_
      rintro e wq ⟨rfl, rfl⟩
      go_wp2_with fail
      exact hK _ _ rfl trivial (Below.refl _ _)
    rintro v rfl K hK
    go_simp
    refine hK _ ?_
    clear hK K
    refine flowW_plain rfl ?_
    go_big_quiet_step (fail)
    refine wpQuiet_nil ?_
    refine flowW_plain rfl ?_
    go_big_quiet_step (fail)
    refine wpQuiet_nil ?_
    refine flowW_plain rfl ?_
    go_big_quiet_step (fail)
    refine wpQuiet_nil ?_
    refine flowW_plain rfl ?_
    go_big_quiet_step (fail)
    refine wpQuiet_nil ?_
    refine flowW_end fun w2 hw2 hF hD => ?_
    clear kp0 kp1 kp2 kp3 kp4 kp5 kp6 kp7 kp8 kp9 kp10 kz0 kz1 kz2 kz3 kz4 kz5 kz6 kz7 kz8 kz9 kz10
    simp only [List.drop_succ_cons, List.drop_zero]
    clear hF hD p0 p1 p2 p3 p4 p5 p6 p7 p8 p9 p10 z0 z1 z2 z3 z4 z5 z6 z7 z8 z9 z10
    have HB2 := Lib.hid hw2
    clear hw2
    have p0 := cell_of_box (bx_later HB2.out BT.out) 0 rfl
    have z0 := cell_of_box (bx_later HB2.out BL.out) 0 rfl
    have p1 := cell_of_box (bx_later HB2.out BT.out) 1 rfl
    have z1 := cell_of_box (bx_later HB2.out BL.out) 1 rfl
    have p2 := cell_of_box (bx_later HB2.out BT.out) 2 rfl
    have z2 := cell_of_box (bx_later HB2.out BL.out) 2 rfl
    have p3 := cell_of_box (bx_later HB2.out BT.out) 3 rfl
    have z3 := cell_of_box (bx_later HB2.out BL.out) 3 rfl
    have p4 := cell_of_box (bx_later HB2.out BT.out) 4 rfl
    have z4 := cell_of_box (bx_later HB2.out BL.out) 4 rfl
    have p5 := cell_of_box (bx_later HB2.out BT.out) 5 rfl
    have z5 := cell_of_box (bx_later HB2.out BL.out) 5 rfl
    have p6 := cell_of_box (bx_later HB2.out BT.out) 6 rfl
    have z6 := cell_of_box (bx_later HB2.out BL.out) 6 rfl
    have p7 := cell_of_box (bx_later HB2.out BT.out) 7 rfl
    have z7 := cell_of_box (bx_later HB2.out BL.out) 7 rfl
    have p8 := cell_of_box (bx_later HB2.out BT.out) 8 rfl
    have z8 := cell_of_box (bx_later HB2.out BL.out) 8 rfl
    have p9 := cell_of_box (bx_later HB2.out BT.out) 9 rfl
    have z9 := cell_of_box (bx_later HB2.out BL.out) 9 rfl
    have p10 := cell_of_box (bx_later HB2.out BT.out) 10 rfl
    have z10 := cell_of_box (bx_later HB2.out BL.out) 10 rfl
    obtain ⟨M, hM⟩ : ∃ M, retT l = M := ⟨_, rfl⟩
    obtain ⟨nm, hnm⟩ : ∃ nm, M.length = nm := ⟨_, rfl⟩
    have hnl : nm ≤ 100000 := by
      rw [← hnm, ← hM]
      unfold retT
      refine Nat.le_trans (compact_len _) ?_
      rw [(sortZ_perm _).length_eq]
      refine Nat.le_trans (retL_len _) ?_
      unfold devT
      exact Nat.le_trans (List.length_filter_le _ _) HN.out
    have HM := Lib.hid hM
    have HNM := Lib.hid hnm
    obtain ⟨n2, hn2⟩ : ∃ n2, w2.heap.size = n2 := ⟨_, rfl⟩
    have HN2 := Lib.hid hn2
    clear hM hnm hn2
    go_wp2_with fail
    refine wp_region_flow (by kernel_rfl) 5 [(1, ⟨fun v => ∃ a c, v = .slice a nm c, fun v _ _ w' => ∃ a c, v = .slice a nm c ∧ w'.ownsRow n2 3 1 (.slice a nm c) nm (M.map ic)⟩), (4, ⟨fun v => ∃ g : Nat, v = .slice (some ⟨g, 0, none⟩) 2 2, fun v _ _ w' => ∃ g : Nat, v = .slice (some ⟨g, 0, none⟩) 2 2 ∧ Rd w' (.slice (some ⟨g, 0, none⟩) 2 2) 2 [.int .i64 1, .int .i64 whom]⟩)] (by kernel_rfl) ?_ ?_ ?_
    · intro x hx
      simp only [List.mem_cons, List.not_mem_nil, or_false] at hx
      rcases hx with rfl | rfl
      · exact ⟨_, none, 0, rfl⟩
      · exact ⟨_, 0, rfl⟩
    · intro x hx v lo hi w w' h hb
      simp only [List.mem_cons, List.not_mem_nil, or_false] at hx
      rcases hx with rfl | rfl
      · obtain ⟨a, c, rfl, ho⟩ := h
        exact ⟨a, c, rfl, own_later ho hb⟩
      · obtain ⟨g, rfl, h1⟩ := h
        exact ⟨g, rfl, h1.later hb⟩
    · intro lo hi
      have kp0 := cell_regrown p0
      have kp1 := cell_regrown p1
      have kp2 := cell_regrown p2
      have kp3 := cell_regrown p3
      have kp4 := cell_regrown p4
      have kp5 := cell_regrown p5
      have kp6 := cell_regrown p6
      have kp7 := cell_regrown p7
      have kp8 := cell_regrown p8
      have kp9 := cell_regrown p9
      have kp10 := cell_regrown p10
      have kz0 := cell_regrown z0
      have kz1 := cell_regrown z1
      have kz2 := cell_regrown z2
      have kz3 := cell_regrown z3
      have kz4 := cell_regrown z4
      have kz5 := cell_regrown z5
      have kz6 := cell_regrown z6
      have kz7 := cell_regrown z7
      have kz8 := cell_regrown z8
      have kz9 := cell_regrown z9
      have kz10 := cell_regrown z10
      refine flowW_plain rfl ?_
      go_big_quiet_step (fail)
      refine wpQuiet_nil ?_
      refine flowW_call rfl rfl ?_ ?_
      · intro W hW hF K hK
        clear kp0 kp1 kp2 kp3 kp4 kp5 kp6 kp7 kp8 kp9 kp10 kz0 kz1 kz2 kz3 kz4 kz5 kz6 kz7 kz8 kz9 kz10
        go_wp2_with fail
        refine (retired_any _ (HL.out.later (below_then HB2.out hW)) (by have := HN.out; omega)).mono ?_
        rintro e wq ⟨a, c, rfl, ho, hbq⟩
        rw [HM.out, HNM.out] at ho ⊢
        go_wp2_with fail
        exact hK _ _ ⟨a, c, rfl⟩ ⟨a, c, rfl, own_monoT ho (by have := hW.size; have := HN2.out; omega)⟩ hbq
      rintro v ⟨a1, k1, rfl⟩ K hK
      go_simp
      refine hK _ ?_
      clear hK K
      refine flowW_plain rfl ?_
      go_big_quiet_step (fail)
      refine wpQuiet_nil ?_
      refine flowW_plain rfl ?_
      go_big_quiet_step (fail)
      refine wpQuiet_nil ?_
      refine flowW_call rfl rfl ?_ ?_
      · intro W hW hF K hK
        clear kp0 kp1 kp2 kp3 kp4 kp5 kp6 kp7 kp8 kp9 kp10 kz0 kz1 kz2 kz3 kz4 kz5 kz6 kz7 kz8 kz9 kz10
        go_wp2_with fail
        exact hK _ _ ⟨_, rfl⟩ ⟨_, rfl, ⟨_, _, rfl, Nat.le_refl _, by decide, (fun h => nomatch h), fun a ha => by cases ha; exact cells_one W #[.int .i64 1, .int .i64 whom] 3⟩⟩ (below_alloc _ _)
      rintro v ⟨g4, rfl⟩ K hK
      go_simp
      refine hK _ ?_
      clear hK K
      refine flowW_end fun w3 hw3 hF hD => ?_
      clear kp0 kp1 kp2 kp3 kp4 kp5 kp6 kp7 kp8 kp9 kp10 kz0 kz1 kz2 kz3 kz4 kz5 kz6 kz7 kz8 kz9 kz10
      simp only [List.drop_succ_cons, List.drop_zero]
      obtain ⟨_, _, he, ho3⟩ := hF 1
      cases he
      obtain ⟨_, he, hg4⟩ := hF 4
      cases he
      have HB3 := Lib.hid (below_then HB2.out hw3)
      have hs3 := hw3.size
      rw [HN2.out] at hs3
      have HG4 := Lib.hid hg4
      have HO3 := Lib.hid ho3
      clear hF hD hw3 p0 p1 p2 p3 p4 p5 p6 p7 p8 p9 p10 z0 z1 z2 z3 z4 z5 z6 z7 z8 z9 z10
      refine wpList_app (y := .slice (some ⟨g4, 0, none⟩) 2 2) (m := 2) (n := nm) (news := [.int .i64 1, .int .i64 whom]) elInts ⟨_, elInts.ty, fun k h => nomatch h⟩ rfl _ _ rfl rfl rfl HO3.out (Src.of_rd HG4.out rfl) (fun u hu => by simp only [List.mem_cons, List.not_mem_nil, or_false] at hu; rcases hu with rfl | rfl <;> rfl) (by unfold maxLen; omega) (by omega) hs3 ?_
      intro v4 w4 hown4 hgrow4 hblk4
      have HB4 := Lib.hid (below_own HB3.out HO3.out (by have := HB2.out.size; have := HN2.out; omega) hgrow4)
      obtain ⟨G, hG⟩ : ∃ G, M ++ [1, whom] = G := ⟨_, rfl⟩
      have hgl : G.length = nm + 2 := by rw [← hG, List.length_append, HNM.out]; rfl
      have hrg : Rd w4 v4 G.length (G.map ic) := by rw [hgl, ← hG, List.map_append]; exact Rd.of_own hown4
      obtain ⟨ag, cg, rfl, -⟩ := id hrg
      have HG := Lib.hid hrg
      have HGE := Lib.hid hG
      obtain ⟨ng, hng⟩ : ∃ ng, G.length = ng := ⟨_, rfl⟩
      have hng2 : nm + 2 = ng := by rw [← hgl, hng]
      have HNG := Lib.hid hng
      rw [hng]
      clear hown4 hgrow4 hblk4 hgl hrg hG hng hng2
      obtain ⟨q, hq⟩ : ∃ q, (fun d => decide (d ∈ G) || agreedT l d dev2 seq2 whom2) = q := ⟨_, rfl⟩
      have HRR : Hid (retiresQ line owns l 1 whom f deps dev2 seq2 whom2 = (memT line owns l).all q) := by show _ = _; rw [HRQ.out, HM.out, HGE.out, hq]
      have HQQ := Lib.hid hq
      clear hq
      go_wp2_with fail
      refine (members_any _ (HV.out.later HB4.out) (HO.out.later HB4.out) (HL.out.later HB4.out) H1.out H2.out H3.out).mono ?_
      rintro e w5 ⟨v5, rfl, hr5, hb5⟩
      obtain ⟨mem, hmem⟩ : ∃ mem, memT line owns l = mem := ⟨_, rfl⟩
      rw [hmem] at hr5 HRR
      obtain ⟨am, cm, rfl, hmc, hmm, -, -⟩ := id hr5
      unfold maxLen at hmm
      obtain ⟨nk, hnk⟩ : ∃ nk, mem.length = nk := ⟨_, rfl⟩
      rw [hnk] at hmc
      have HR5 := Lib.hid hr5
      have HNK := Lib.hid hnk
      have HB5 := Lib.hid (below_then HB4.out hb5)
      have HG5 := Lib.hid (HG.out.later hb5)
      rw [hnk]
      clear hr5 hnk hb5 hmem
      go_wp2_with fail
      go_loopw [38] (fun vi wr => ∃ k : Nat, k ≤ nk ∧ vi = .int .i64 k ∧ Hid (∀ d ∈ mem.take k, q d = true) ∧ Hid (Below w5.heap.size w5 wr)) (fun vi _ => nk - (intOf vi).toNat)
      case atStart => exact ⟨0, Nat.zero_le _, by go_num, (fun x hx => by simp at hx), Below.refl _ _⟩
      case round =>
        obtain ⟨k, hk, rfl, hall, HB⟩ := hrel
        rename World => wr
        by_cases hlt : k < nk
        · have hkl : k < mem.length := by have := HNK.out; omega
          have hk2 : (k : Int) < (nk : Int) := by omega
          obtain ⟨A, x1, c0, _⟩ := rd_one elInts ic (HR5.out.later HB.out) rfl k hkl
          rw [HNK.out] at x1
          obtain ⟨d, hd⟩ : ∃ d, mem[k] = d := ⟨_, rfl⟩
          have hnx : mem.take (k + 1) = mem.take k ++ [d] := by rw [List.take_succ_eq_append_getElem hkl, hd]
          have hdm : d ∈ mem := hd ▸ List.getElem_mem hkl
          have hqd : q d = (decide (d ∈ G) || agreedT l d dev2 seq2 whom2) := by rw [← HQQ.out]
          rw [hd] at c0
          have HNX := Lib.hid hnx
          have HDM := Lib.hid hdm
          have HCN := Lib.hid (containsN_any (x := d) wr (HG5.out.later HB.out))
          rw [HNG.out] at HCN
          clear hnx hdm hd
          by_cases hin : d ∈ G
          · have HQD : Hid (q d = true) := by show _ = _; rw [hqd, decide_eq_true hin]; rfl
            rw [decide_eq_true hin] at HCN
            clear hqd hin
            go_wp2_with fail
            refine HCN.out.mono ?_
            rintro e w6 ⟨rfl, rfl⟩
            go_wp2_with fail
            go_roundw
            case rel => exact ⟨k + 1, by omega, by go_num, (by show ∀ _, _; rw [HNX.out]; intro y hy; rcases List.mem_append.1 hy with hy | hy; exact hall.out y hy; rw [List.mem_singleton.1 hy]; exact HQD.out), HB.out⟩
            case measure => simp [intOf]; omega
          · obtain ⟨r, hr⟩ : ∃ r, agreedT l d dev2 seq2 whom2 = r := ⟨_, rfl⟩
            have HQD : Hid (q d = r) := by show _ = _; rw [hqd, decide_eq_false hin, hr]; rfl
            rw [decide_eq_false hin] at HCN
            have HR := Lib.hid hr
            clear hqd hin hr
            have z0 := cell_of_box (bx_later (below_then HB5.out HB.out) BL.out) 0 rfl
            have z1 := cell_of_box (bx_later (below_then HB5.out HB.out) BL.out) 1 rfl
            have z2 := cell_of_box (bx_later (below_then HB5.out HB.out) BL.out) 2 rfl
            have z3 := cell_of_box (bx_later (below_then HB5.out HB.out) BL.out) 3 rfl
            have z4 := cell_of_box (bx_later (below_then HB5.out HB.out) BL.out) 4 rfl
            have z5 := cell_of_box (bx_later (below_then HB5.out HB.out) BL.out) 5 rfl
            have z6 := cell_of_box (bx_later (below_then HB5.out HB.out) BL.out) 6 rfl
            have z7 := cell_of_box (bx_later (below_then HB5.out HB.out) BL.out) 7 rfl
            have z8 := cell_of_box (bx_later (below_then HB5.out HB.out) BL.out) 8 rfl
            have z9 := cell_of_box (bx_later (below_then HB5.out HB.out) BL.out) 9 rfl
            have z10 := cell_of_box (bx_later (below_then HB5.out HB.out) BL.out) 10 rfl
            go_wp2_with fail
            refine HCN.out.mono ?_
            rintro e w6 ⟨rfl, rfl⟩
            go_wp2_with fail
            refine (agreed_any _ (HL.out.later (below_then HB5.out HB.out)) (by have := HN.out; omega)).mono ?_
            rintro e w7 ⟨rfl, hb7⟩
            rw [HR.out]
            have HB7 := Lib.hid (below_then HB.out hb7)
            clear hb7 c0 x1 z0 z1 z2 z3 z4 z5 z6 z7 z8 z9 z10
            cases r
            · have HF : Hid (mem.all q = false) := by show _ = _; rw [List.all_eq_false]; exact ⟨d, HDM.out, by rw [HQD.out]; decide⟩
              go_wp2_with fail
              go_ret
              exact ⟨ret_bool (by rw [HRR.out, HF.out]), below_then HB1.out (below_then HB5.out HB7.out)⟩
            · go_wp2_with fail
              go_roundw
              case rel => exact ⟨k + 1, by omega, by go_num, (by show ∀ _, _; rw [HNX.out]; intro y hy; rcases List.mem_append.1 hy with hy | hy; exact hall.out y hy; rw [List.mem_singleton.1 hy]; exact HQD.out), HB7.out⟩
              case measure => simp [intOf]; omega
        · have hkn : nk = k := by omega
          subst hkn
          have hk2 : ¬ (nk : Int) < (nk : Int) := by omega
          have hal := hall.out
          rw [List.take_of_length_le (by have := HNK.out; omega)] at hal
          have HF : Hid (mem.all q = true) := List.all_eq_true.2 hal
          clear hal
          go_wp2_with fail
          go_ret
          exact ⟨ret_bool (by rw [HRR.out, HF.out]), below_then HB1.out (below_then HB5.out HB.out)⟩

end Go.Proofs.YtnolbabpkhdpmaaGreat
/- Layer 20 (past): Note. (printed by tools/gen_yz.py) -/
namespace Go.Proofs.YtnolbabpkhdpmaaGreat
open Go.RowKit Go.Sort Go.BigFrame
attribute [local irreducible] FlowW

/-- May a note be? -/
def noteQ (note dev whom upto f : Int) (s : Bool) (dn du : Int) (rt : Bool) : Bool :=
  if note = 0 then true else if whom = 1 then false else if whom = dev then false else if s = true ∧ dn = 2 then false
  else if note = 1 then decide (f ≤ upto) && (decide (dev = 1) || (s && decide (du = upto))) else if note = 2 then (s && decide (du = upto)) && rt else false
def noteT (line : List Int) (owns : List OwnS) (l : List TxS) (dev note whom upto : Int) (deps : List Int) : Bool :=
  noteQ note dev whom upto (ofV deps whom) (wordT (pastT l deps) whom).isSome ((wordT (pastT l deps) whom).getD default).note ((wordT (pastT l deps) whom).getD default).upto
    (retiresQ line owns (pastT l deps) dev whom upto deps ((wordT (pastT l deps) whom).getD default).dev ((wordT (pastT l deps) whom).getD default).seq ((wordT (pastT l deps) whom).getD default).whom)
theorem flat_handD_len {l : List TxS} {p : List TxS} (hp : ∀ t ∈ p, t ∈ l) (hh : ∀ t ∈ l, t.hands.length ≤ 99) : (p.flatMap handD).length ≤ 100 * p.length := by
  induction p with
  | nil => simp
  | cons a p ih =>
    rw [List.flatMap_cons, List.length_append, List.length_cons]
    have h1 := ih fun t ht => hp t (List.mem_cons_of_mem _ ht)
    have h2 := hh a (hp a List.mem_cons_self)
    have h3 : (handD a).length = a.hands.length + 1 := by simp [handD]
    omega
theorem pastT_len (l : List TxS) (deps : List Int) : (pastT l deps).length ≤ l.length := by
  unfold pastT
  refine Nat.le_trans (List.length_filter_le _ _) ?_
  rw [ordT_length]
  exact Nat.le_refl _
set_option maxRecDepth 100000 in
set_option maxHeartbeats 8000000 in
theorem note_any {dev seq time note whom upto : Int} {fm : Bool} {ad ao ae ah : Option Addr} {nd cd no co ne ce nh ch : Nat} {vv vo vl : Value} {line deps : List Int} {owns : List OwnS} {l : List TxS} (w : World) (hv : Rd w vv line.length (line.map ic)) (ho : Rd w vo owns.length (owns.flatMap OwnS.cs)) (hl : LRd w vl l) (hd : Rd w (.slice ad nd cd) deps.length (deps.map ic)) (h1 : line.length ≤ 100000) (h2 : owns.length ≤ 100000) (h3 : ∀ t ∈ l, t.hands.length ≤ 99) (hn : l.length ≤ 1000) :
    Calls Tryz.prog 12 #[vv, vo, vl, .agg #[.int .i64 dev, .int .i64 seq, .int .i64 time, .slice ad nd cd, .slice ao no co, .slice ae ne ce, .bool fm, .slice ah nh ch, .int .i64 note, .int .i64 whom, .int .i64 upto]] w fun e w' => e = .returned (.bool (noteT line owns l dev note whom upto deps)) ∧ Below w.heap.size w w' := by
  obtain ⟨ga, gc, rfl, -⟩ := id hv
  obtain ⟨oa, oc, rfl, -⟩ := id ho
  obtain ⟨la, lc, rfl, -⟩ := id hl.1
  obtain ⟨w1, hw1⟩ : ∃ w1, w.alloc (.cells #[.int .i64 dev, .int .i64 seq, .int .i64 time, .slice ad nd cd, .slice ao no co, .slice ae ne ce, .bool fm, .slice ah nh ch, .int .i64 note, .int .i64 whom, .int .i64 upto] 31) = w1 := ⟨_, rfl⟩
  have hbw1 : Below w.heap.size w w1 := by rw [← hw1]; exact below_alloc _ _
  have bw1 : Bx w1 w.heap.size #[.int .i64 dev, .int .i64 seq, .int .i64 time, .slice ad nd cd, .slice ao no co, .slice ae ne ce, .bool fm, .slice ah nh ch, .int .i64 note, .int .i64 whom, .int .i64 upto] 31 := by rw [← hw1]; exact bx_new rfl
  have Hw1 := Lib.hid hw1
  have BT := Lib.hid bw1
  have HB1 := Lib.hid hbw1
  have HV := Lib.hid (hv.later hbw1)
  have HO := Lib.hid (ho.later hbw1)
  have HL := Lib.hid (hl.later hbw1)
  have HD := Lib.hid (hd.later hbw1)
  have H1 := Lib.hid h1
  have H2 := Lib.hid h2
  have H3 := Lib.hid h3
  have HN := Lib.hid hn
  clear hv ho hl hd h1 h2 h3 hn hw1 hbw1 bw1
  go_enter Tryz.func12, Tryz.ntmps12
  go_upto_region 1 with fail
  rw [Hw1.out]
  have p0 := cell_of_box (bx_later (Below.refl w1.heap.size w1) BT.out) 0 rfl
  have p1 := cell_of_box (bx_later (Below.refl w1.heap.size w1) BT.out) 1 rfl
  have p2 := cell_of_box (bx_later (Below.refl w1.heap.size w1) BT.out) 2 rfl
  have p3 := cell_of_box (bx_later (Below.refl w1.heap.size w1) BT.out) 3 rfl
  have p4 := cell_of_box (bx_later (Below.refl w1.heap.size w1) BT.out) 4 rfl
  have p5 := cell_of_box (bx_later (Below.refl w1.heap.size w1) BT.out) 5 rfl
  have p6 := cell_of_box (bx_later (Below.refl w1.heap.size w1) BT.out) 6 rfl
  have p7 := cell_of_box (bx_later (Below.refl w1.heap.size w1) BT.out) 7 rfl
  have p8 := cell_of_box (bx_later (Below.refl w1.heap.size w1) BT.out) 8 rfl
  have p9 := cell_of_box (bx_later (Below.refl w1.heap.size w1) BT.out) 9 rfl
  have p10 := cell_of_box (bx_later (Below.refl w1.heap.size w1) BT.out) 10 rfl
  by_cases c0 : note = 0
  · have HRR : Hid (noteT line owns l dev note whom upto deps = true) := by show _ = _; unfold noteT noteQ; rw [if_pos c0]
    have c0' : (note == 0) = true := by simp [c0]
    clear c0
    go_wp2_with fail
    go_ret
    exact ⟨ret_bool HRR.out.symm, HB1.out⟩
  have c0' : (note == 0) = false := by simp [c0]
  go_wp2_with fail
  refine (past_any _ HL.out HD.out (by have := HN.out; omega)).mono ?_
  rintro e w2 ⟨v2, rfl, hl2, hb2⟩
  obtain ⟨p, hp⟩ : ∃ p, pastT l deps = p := ⟨_, rfl⟩
  have hpl := pastT_len l deps
  have hpm : ∀ t ∈ pastT l deps, t ∈ l := fun t ht => (pastT_mem ht).1
  have hph := flat_handD_len hpm H3.out
  rw [hp] at hl2 hpl hph
  obtain ⟨pa, pc, rfl, -⟩ := id hl2.1
  have HL2 := Lib.hid hl2
  have HB2 := Lib.hid hb2
  have HPL : Hid (p.length ≤ 1000) := by show _ ≤ _; have := HN.out; omega
  have HPH : Hid ((p.flatMap handD).length ≤ 100000) := by show _ ≤ _; have := HPL.out; omega
  have HP := Lib.hid hp
  clear hl2 hb2 hpl hpm hph hp p0 p1 p2 p3 p4 p5 p6 p7 p8 p9 p10
  have p0 := cell_of_box (bx_later HB2.out BT.out) 0 rfl
  have p1 := cell_of_box (bx_later HB2.out BT.out) 1 rfl
  have p2 := cell_of_box (bx_later HB2.out BT.out) 2 rfl
  have p3 := cell_of_box (bx_later HB2.out BT.out) 3 rfl
  have p4 := cell_of_box (bx_later HB2.out BT.out) 4 rfl
  have p5 := cell_of_box (bx_later HB2.out BT.out) 5 rfl
  have p6 := cell_of_box (bx_later HB2.out BT.out) 6 rfl
  have p7 := cell_of_box (bx_later HB2.out BT.out) 7 rfl
  have p8 := cell_of_box (bx_later HB2.out BT.out) 8 rfl
  have p9 := cell_of_box (bx_later HB2.out BT.out) 9 rfl
  have p10 := cell_of_box (bx_later HB2.out BT.out) 10 rfl
  go_wp2_with fail
  refine (word_any _ HL2.out (by have := HPL.out; omega)).mono ?_
  rintro e w3 ⟨d, hd, rfl, hb3⟩
  obtain ⟨s, hs⟩ : ∃ s, (wordT p whom).isSome = s := ⟨_, rfl⟩
  rw [hs]
  have HDE := Lib.hid hd
  have HSE := Lib.hid hs
  have HB3 := Lib.hid (below_then HB2.out hb3)
  have HB23 := Lib.hid hb3
  clear hd hs hb3 p0 p1 p2 p3 p4 p5 p6 p7 p8 p9 p10
  go_upto_region 5 with fail
  obtain ⟨w4, hw4⟩ : ∃ w4, w3.alloc (.cells #[.int .i64 d.dev, .int .i64 d.seq, .int .i64 d.time, .slice d.ad d.nd d.cd, .slice d.ao d.no d.co, .slice d.ae d.ne d.ce, .bool d.fm, .slice d.ah d.nh d.ch, .int .i64 d.note, .int .i64 d.whom, .int .i64 d.upto] 31) = w4 := ⟨_, rfl⟩
  have hbw4 : Below w3.heap.size w3 w4 := by rw [← hw4]; exact below_alloc _ _
  have bw4 : Bx w4 w3.heap.size #[.int .i64 d.dev, .int .i64 d.seq, .int .i64 d.time, .slice d.ad d.nd d.cd, .slice d.ao d.no d.co, .slice d.ae d.ne d.ce, .bool d.fm, .slice d.ah d.nh d.ch, .int .i64 d.note, .int .i64 d.whom, .int .i64 d.upto] 31 := by rw [← hw4]; exact bx_new rfl
  have Hw4 := Lib.hid hw4
  have BD := Lib.hid bw4
  rw [hw4]
  have HB4 := Lib.hid (below_then HB3.out hbw4)
  have HB24 := Lib.hid (below_then HB23.out hbw4)
  clear hw4 hbw4 bw4 Hw4
  have p0 := cell_of_box (bx_later HB4.out BT.out) 0 rfl
  have p1 := cell_of_box (bx_later HB4.out BT.out) 1 rfl
  have p2 := cell_of_box (bx_later HB4.out BT.out) 2 rfl
  have p3 := cell_of_box (bx_later HB4.out BT.out) 3 rfl
  have p4 := cell_of_box (bx_later HB4.out BT.out) 4 rfl
  have p5 := cell_of_box (bx_later HB4.out BT.out) 5 rfl
  have p6 := cell_of_box (bx_later HB4.out BT.out) 6 rfl
  have p7 := cell_of_box (bx_later HB4.out BT.out) 7 rfl
  have p8 := cell_of_box (bx_later HB4.out BT.out) 8 rfl
  have p9 := cell_of_box (bx_later HB4.out BT.out) 9 rfl
  have p10 := cell_of_box (bx_later HB4.out BT.out) 10 rfl
  have z0 := cell_of_box (BD.out) 0 rfl
  have z1 := cell_of_box (BD.out) 1 rfl
  have z2 := cell_of_box (BD.out) 2 rfl
  have z3 := cell_of_box (BD.out) 3 rfl
  have z4 := cell_of_box (BD.out) 4 rfl
  have z5 := cell_of_box (BD.out) 5 rfl
  have z6 := cell_of_box (BD.out) 6 rfl
  have z7 := cell_of_box (BD.out) 7 rfl
  have z8 := cell_of_box (BD.out) 8 rfl
  have z9 := cell_of_box (BD.out) 9 rfl
  have z10 := cell_of_box (BD.out) 10 rfl
  obtain ⟨f, hf⟩ : ∃ f, ofV deps whom = f := ⟨_, rfl⟩
  obtain ⟨rt, hrt⟩ : ∃ rt, retiresQ line owns p dev whom upto deps d.dev d.seq d.whom = rt := ⟨_, rfl⟩
  have HNT : Hid (noteT line owns l dev note whom upto deps = noteQ note dev whom upto f s d.note d.upto rt) := by
    show _ = _
    unfold noteT
    rw [HP.out, hf, ← HDE.out, HSE.out, hrt]
  have HF0 := Lib.hid hf
  have HRT := Lib.hid hrt
  clear hf hrt
  cases s
  · go_wp2_with fail
    refine wp_region_flow (by kernel_rfl) 9 [(4, ⟨fun v => v = .int .i64 f, fun _ _ _ _ => True⟩)] (by kernel_rfl) ?_ ?_ ?_
    · intro x hx
      simp only [List.mem_cons, List.not_mem_nil, or_false] at hx
      subst hx
      exact ⟨_, rfl⟩
    · intro x hx v lo hi w w' h hb
      simp only [List.mem_cons, List.not_mem_nil, or_false] at hx
      subst hx
      exact trivial
    · intro lo hi
      have kp0 := cell_regrown p0
      have kp1 := cell_regrown p1
      have kp2 := cell_regrown p2
      have kp3 := cell_regrown p3
      have kp4 := cell_regrown p4
      have kp5 := cell_regrown p5
      have kp6 := cell_regrown p6
      have kp7 := cell_regrown p7
      have kp8 := cell_regrown p8
      have kp9 := cell_regrown p9
      have kp10 := cell_regrown p10
      have kz0 := cell_regrown z0
      have kz1 := cell_regrown z1
      have kz2 := cell_regrown z2
      have kz3 := cell_regrown z3
      have kz4 := cell_regrown z4
      have kz5 := cell_regrown z5
      have kz6 := cell_regrown z6
      have kz7 := cell_regrown z7
      have kz8 := cell_regrown z8
      have kz9 := cell_regrown z9
      have kz10 := cell_regrown z10
      refine flowW_plain rfl ?_
      go_big_quiet_step (fail)
      refine wpQuiet_nil ?_
      refine flowW_plain rfl ?_
      go_big_quiet_step (fail)
      refine wpQuiet_nil ?_
      refine flowW_plain rfl ?_
      go_big_quiet_step (fail)
      refine wpQuiet_nil ?_
      refine flowW_plain rfl ?_
      go_big_quiet_step (fail)
      refine wpQuiet_nil ?_
      refine flowW_call rfl rfl ?_ ?_
      · intro W hW hF K hK
        clear kp0 kp1 kp2 kp3 kp4 kp5 kp6 kp7 kp8 kp9 kp10 kz0 kz1 kz2 kz3 kz4 kz5 kz6 kz7 kz8 kz9 kz10
        go_wp2_with fail
        refine (HF0.out ▸ ofV_any _ deps whom _ (HD.out.later (below_then HB4.out hW))).mono ?_
        rintro e wq ⟨rfl, rfl⟩
        go_wp2_with fail
        exact hK _ _ rfl trivial (Below.refl _ _)
      rintro v rfl K hK
      go_simp
      refine hK _ ?_
      clear hK K
      refine flowW_plain rfl ?_
      go_big_quiet_step (fail)
      refine wpQuiet_nil ?_
      refine flowW_plain rfl ?_
      go_big_quiet_step (fail)
      refine wpQuiet_nil ?_
      refine flowW_plain rfl ?_
      go_big_quiet_step (fail)
      refine wpQuiet_nil ?_
      refine flowW_plain rfl ?_
      go_big_quiet_step (fail)
      refine wpQuiet_nil ?_
      refine flowW_end fun w5 hw5 hF hD => ?_
      clear kp0 kp1 kp2 kp3 kp4 kp5 kp6 kp7 kp8 kp9 kp10 kz0 kz1 kz2 kz3 kz4 kz5 kz6 kz7 kz8 kz9 kz10
      simp only [List.drop_succ_cons, List.drop_zero]
      clear hF hD p0 p1 p2 p3 p4 p5 p6 p7 p8 p9 p10 z0 z1 z2 z3 z4 z5 z6 z7 z8 z9 z10
      have HB5 := Lib.hid (below_then HB1.out (below_then HB4.out hw5))
      have HB45 := Lib.hid hw5
      clear hw5
      have p0 := cell_of_box (bx_later (below_then HB4.out HB45.out) BT.out) 0 rfl
      have p1 := cell_of_box (bx_later (below_then HB4.out HB45.out) BT.out) 1 rfl
      have p2 := cell_of_box (bx_later (below_then HB4.out HB45.out) BT.out) 2 rfl
      have p3 := cell_of_box (bx_later (below_then HB4.out HB45.out) BT.out) 3 rfl
      have p4 := cell_of_box (bx_later (below_then HB4.out HB45.out) BT.out) 4 rfl
      have p5 := cell_of_box (bx_later (below_then HB4.out HB45.out) BT.out) 5 rfl
      have p6 := cell_of_box (bx_later (below_then HB4.out HB45.out) BT.out) 6 rfl
      have p7 := cell_of_box (bx_later (below_then HB4.out HB45.out) BT.out) 7 rfl
      have p8 := cell_of_box (bx_later (below_then HB4.out HB45.out) BT.out) 8 rfl
      have p9 := cell_of_box (bx_later (below_then HB4.out HB45.out) BT.out) 9 rfl
      have p10 := cell_of_box (bx_later (below_then HB4.out HB45.out) BT.out) 10 rfl
      have z0 := cell_of_box (bx_later HB45.out BD.out) 0 rfl
      have z1 := cell_of_box (bx_later HB45.out BD.out) 1 rfl
      have z2 := cell_of_box (bx_later HB45.out BD.out) 2 rfl
      have z3 := cell_of_box (bx_later HB45.out BD.out) 3 rfl
      have z4 := cell_of_box (bx_later HB45.out BD.out) 4 rfl
      have z5 := cell_of_box (bx_later HB45.out BD.out) 5 rfl
      have z6 := cell_of_box (bx_later HB45.out BD.out) 6 rfl
      have z7 := cell_of_box (bx_later HB45.out BD.out) 7 rfl
      have z8 := cell_of_box (bx_later HB45.out BD.out) 8 rfl
      have z9 := cell_of_box (bx_later HB45.out BD.out) 9 rfl
      have z10 := cell_of_box (bx_later HB45.out BD.out) 10 rfl
      obtain ⟨fw, hfw⟩ : ∃ fw, decide (f ≤ upto) = fw := ⟨_, rfl⟩
      by_cases c1 : whom = 1
      · have c1' : (whom == 1) = true := by simp [c1]
        have HRR : Hid (noteQ note dev whom upto f false d.note d.upto rt = false) := by show _ = _; unfold noteQ; simp [c0, c1]
        clear c0 c1
        go_wp2_with fail
        go_ret
        exact ⟨ret_bool (HNT.out.trans HRR.out).symm, HB5.out⟩
      have c1' : (whom == 1) = false := by simp [c1]
      by_cases c2 : whom = dev
      · have c2' : (whom == dev) = true := by simp [c2]
        have HRR : Hid (noteQ note dev whom upto f false d.note d.upto rt = false) := by show _ = _; unfold noteQ; simp [c0, c2]
        clear c0 c1 c2
        go_wp2_with fail
        go_ret
        exact ⟨ret_bool (HNT.out.trans HRR.out).symm, HB5.out⟩
      have c2' : (whom == dev) = false := by simp [c2]
      by_cases c4 : note = 1
      · have c4' : (note == 1) = true := by simp [c4]
        cases fw
        · have hfw' := of_decide_eq_false hfw
          have HRR : Hid (noteQ note dev whom upto f false d.note d.upto rt = false) := by show _ = _; unfold noteQ; simp [c1, c2, c4, hfw']
          clear c0 c1 c2 c4 hfw'
          go_wp2_with fail
          go_ret
          exact ⟨ret_bool (HNT.out.trans HRR.out).symm, HB5.out⟩
        · have hfw' := of_decide_eq_true hfw
          by_cases c5 : dev = 1
          · have c5' : (dev == 1) = true := by simp [c5]
            have HRR : Hid (noteQ note dev whom upto f false d.note d.upto rt = true) := by show _ = _; unfold noteQ; simp [c1, c4, hfw', c5]
            clear c0 c1 c2 c4 hfw' c5
            go_wp2_with fail
            go_ret
            exact ⟨ret_bool (HNT.out.trans HRR.out).symm, HB5.out⟩
          · have c5' : (dev == 1) = false := by simp [c5]
            have HRR : Hid (noteQ note dev whom upto f false d.note d.upto rt = false) := by show _ = _; unfold noteQ; simp [c1, c2, c4, hfw', c5]
            clear c0 c1 c2 c4 hfw' c5
            go_wp2_with fail
            go_ret
            exact ⟨ret_bool (HNT.out.trans HRR.out).symm, HB5.out⟩
      · have c4' : (note == 1) = false := by simp [c4]
        by_cases c6 : note = 2
        · have c6' : (note == 2) = true := by simp [c6]
          have HRR : Hid (noteQ note dev whom upto f false d.note d.upto rt = false) := by show _ = _; unfold noteQ; simp [c1, c2, c6]
          clear c0 c1 c2 c4 c6
          go_wp2_with fail
          go_ret
          exact ⟨ret_bool (HNT.out.trans HRR.out).symm, HB5.out⟩
        · have c6' : (note == 2) = false := by simp [c6]
          have HRR : Hid (noteQ note dev whom upto f false d.note d.upto rt = false) := by show _ = _; unfold noteQ; simp [c0, c1, c2, c4, c6]
          clear c0 c1 c2 c4 c6
          go_wp2_with fail
          go_ret
          exact ⟨ret_bool (HNT.out.trans HRR.out).symm, HB5.out⟩
  · by_cases e5 : d.upto = upto
    · have e5' : (d.upto == upto) = true := by simp [e5]
      have HE5 := Lib.hid e5
      clear e5
      go_wp2_with fail
      refine wp_region_flow (by kernel_rfl) 9 [(4, ⟨fun v => v = .int .i64 f, fun _ _ _ _ => True⟩)] (by kernel_rfl) ?_ ?_ ?_
      · intro x hx
        simp only [List.mem_cons, List.not_mem_nil, or_false] at hx
        subst hx
        exact ⟨_, rfl⟩
      · intro x hx v lo hi w w' h hb
        simp only [List.mem_cons, List.not_mem_nil, or_false] at hx
        subst hx
        exact trivial
      · intro lo hi
        have kp0 := cell_regrown p0
        have kp1 := cell_regrown p1
        have kp2 := cell_regrown p2
        have kp3 := cell_regrown p3
        have kp4 := cell_regrown p4
        have kp5 := cell_regrown p5
        have kp6 := cell_regrown p6
        have kp7 := cell_regrown p7
        have kp8 := cell_regrown p8
        have kp9 := cell_regrown p9
        have kp10 := cell_regrown p10
        have kz0 := cell_regrown z0
        have kz1 := cell_regrown z1
        have kz2 := cell_regrown z2
        have kz3 := cell_regrown z3
        have kz4 := cell_regrown z4
        have kz5 := cell_regrown z5
        have kz6 := cell_regrown z6
        have kz7 := cell_regrown z7
        have kz8 := cell_regrown z8
        have kz9 := cell_regrown z9
        have kz10 := cell_regrown z10
        refine flowW_plain rfl ?_
        go_big_quiet_step (fail)
        refine wpQuiet_nil ?_
        refine flowW_plain rfl ?_
        go_big_quiet_step (fail)
        refine wpQuiet_nil ?_
        refine flowW_plain rfl ?_
        go_big_quiet_step (fail)
        refine wpQuiet_nil ?_
        refine flowW_plain rfl ?_
        go_big_quiet_step (fail)
        refine wpQuiet_nil ?_
        refine flowW_call rfl rfl ?_ ?_
        · intro W hW hF K hK
          clear kp0 kp1 kp2 kp3 kp4 kp5 kp6 kp7 kp8 kp9 kp10 kz0 kz1 kz2 kz3 kz4 kz5 kz6 kz7 kz8 kz9 kz10
          go_wp2_with fail
          refine (HF0.out ▸ ofV_any _ deps whom _ (HD.out.later (below_then HB4.out hW))).mono ?_
          rintro e wq ⟨rfl, rfl⟩
          go_wp2_with fail
          exact hK _ _ rfl trivial (Below.refl _ _)
        rintro v rfl K hK
        go_simp
        refine hK _ ?_
        clear hK K
        refine flowW_plain rfl ?_
        go_big_quiet_step (fail)
        refine wpQuiet_nil ?_
        refine flowW_plain rfl ?_
        go_big_quiet_step (fail)
        refine wpQuiet_nil ?_
        refine flowW_plain rfl ?_
        go_big_quiet_step (fail)
        refine wpQuiet_nil ?_
        refine flowW_plain rfl ?_
        go_big_quiet_step (fail)
        refine wpQuiet_nil ?_
        refine flowW_end fun w5 hw5 hF hD => ?_
        clear kp0 kp1 kp2 kp3 kp4 kp5 kp6 kp7 kp8 kp9 kp10 kz0 kz1 kz2 kz3 kz4 kz5 kz6 kz7 kz8 kz9 kz10
        simp only [List.drop_succ_cons, List.drop_zero]
        clear hF hD p0 p1 p2 p3 p4 p5 p6 p7 p8 p9 p10 z0 z1 z2 z3 z4 z5 z6 z7 z8 z9 z10
        have HB5 := Lib.hid (below_then HB1.out (below_then HB4.out hw5))
        have HB45 := Lib.hid hw5
        clear hw5
        have p0 := cell_of_box (bx_later (below_then HB4.out HB45.out) BT.out) 0 rfl
        have p1 := cell_of_box (bx_later (below_then HB4.out HB45.out) BT.out) 1 rfl
        have p2 := cell_of_box (bx_later (below_then HB4.out HB45.out) BT.out) 2 rfl
        have p3 := cell_of_box (bx_later (below_then HB4.out HB45.out) BT.out) 3 rfl
        have p4 := cell_of_box (bx_later (below_then HB4.out HB45.out) BT.out) 4 rfl
        have p5 := cell_of_box (bx_later (below_then HB4.out HB45.out) BT.out) 5 rfl
        have p6 := cell_of_box (bx_later (below_then HB4.out HB45.out) BT.out) 6 rfl
        have p7 := cell_of_box (bx_later (below_then HB4.out HB45.out) BT.out) 7 rfl
        have p8 := cell_of_box (bx_later (below_then HB4.out HB45.out) BT.out) 8 rfl
        have p9 := cell_of_box (bx_later (below_then HB4.out HB45.out) BT.out) 9 rfl
        have p10 := cell_of_box (bx_later (below_then HB4.out HB45.out) BT.out) 10 rfl
        have z0 := cell_of_box (bx_later HB45.out BD.out) 0 rfl
        have z1 := cell_of_box (bx_later HB45.out BD.out) 1 rfl
        have z2 := cell_of_box (bx_later HB45.out BD.out) 2 rfl
        have z3 := cell_of_box (bx_later HB45.out BD.out) 3 rfl
        have z4 := cell_of_box (bx_later HB45.out BD.out) 4 rfl
        have z5 := cell_of_box (bx_later HB45.out BD.out) 5 rfl
        have z6 := cell_of_box (bx_later HB45.out BD.out) 6 rfl
        have z7 := cell_of_box (bx_later HB45.out BD.out) 7 rfl
        have z8 := cell_of_box (bx_later HB45.out BD.out) 8 rfl
        have z9 := cell_of_box (bx_later HB45.out BD.out) 9 rfl
        have z10 := cell_of_box (bx_later HB45.out BD.out) 10 rfl
        obtain ⟨fw, hfw⟩ : ∃ fw, decide (f ≤ upto) = fw := ⟨_, rfl⟩
        by_cases c1 : whom = 1
        · have c1' : (whom == 1) = true := by simp [c1]
          have HRR : Hid (noteQ note dev whom upto f true d.note d.upto rt = false) := by show _ = _; unfold noteQ; simp [c0, c1]
          clear c0 c1
          go_wp2_with fail
          go_ret
          exact ⟨ret_bool (HNT.out.trans HRR.out).symm, HB5.out⟩
        have c1' : (whom == 1) = false := by simp [c1]
        by_cases c2 : whom = dev
        · have c2' : (whom == dev) = true := by simp [c2]
          have HRR : Hid (noteQ note dev whom upto f true d.note d.upto rt = false) := by show _ = _; unfold noteQ; simp [c0, c2]
          clear c0 c1 c2
          go_wp2_with fail
          go_ret
          exact ⟨ret_bool (HNT.out.trans HRR.out).symm, HB5.out⟩
        have c2' : (whom == dev) = false := by simp [c2]
        by_cases c3 : d.note = 2
        · have c3' : (d.note == 2) = true := by simp [c3]
          have HRR : Hid (noteQ note dev whom upto f true d.note d.upto rt = false) := by show _ = _; unfold noteQ; simp [c0, c1, c2, c3]
          clear c0 c1 c2 c3
          go_wp2_with fail
          go_ret
          exact ⟨ret_bool (HNT.out.trans HRR.out).symm, HB5.out⟩
        have c3' : (d.note == 2) = false := by simp [c3]
        by_cases c4 : note = 1
        · have c4' : (note == 1) = true := by simp [c4]
          cases fw
          · have hfw' := of_decide_eq_false hfw
            have HRR : Hid (noteQ note dev whom upto f true d.note d.upto rt = false) := by show _ = _; unfold noteQ; simp [c1, c2, c3, HE5.out, c4, hfw']
            clear c0 c1 c2 c3 c4 hfw'
            go_wp2_with fail
            go_ret
            exact ⟨ret_bool (HNT.out.trans HRR.out).symm, HB5.out⟩
          · have hfw' := of_decide_eq_true hfw
            by_cases c5 : dev = 1
            · have c5' : (dev == 1) = true := by simp [c5]
              have HRR : Hid (noteQ note dev whom upto f true d.note d.upto rt = true) := by show _ = _; unfold noteQ; simp [c1, c3, HE5.out, c4, hfw', c5]
              clear c0 c1 c2 c3 c4 hfw' c5
              go_wp2_with fail
              go_ret
              exact ⟨ret_bool (HNT.out.trans HRR.out).symm, HB5.out⟩
            · have c5' : (dev == 1) = false := by simp [c5]
              have HRR : Hid (noteQ note dev whom upto f true d.note d.upto rt = true) := by show _ = _; unfold noteQ; simp [c1, c2, c3, HE5.out, c4, hfw', c5]
              clear c0 c1 c2 c3 c4 hfw' c5
              go_wp2_with fail
              go_ret
              exact ⟨ret_bool (HNT.out.trans HRR.out).symm, HB5.out⟩
        · have c4' : (note == 1) = false := by simp [c4]
          by_cases c6 : note = 2
          · have c6' : (note == 2) = true := by simp [c6]
            have HRR : Hid (noteQ note dev whom upto f true d.note d.upto rt = rt) := by show _ = _; unfold noteQ; simp [c1, c2, c3, HE5.out, c6]
            clear c0 c1 c2 c3 c4 c6
            go_wp2_with fail
            refine (retires_any _ (HV.out.later (below_then HB4.out HB45.out)) (HO.out.later (below_then HB4.out HB45.out)) (HL2.out.later (below_then HB24.out HB45.out)) (HD.out.later (below_then HB4.out HB45.out)) H1.out H2.out HPH.out (by have := HPL.out; omega)).mono ?_
            rintro e w6 ⟨rfl, hb6⟩
            rw [HRT.out]
            have HB6 := Lib.hid (below_then HB5.out hb6)
            clear hb6 p0 p1 p2 p3 p4 p5 p6 p7 p8 p9 p10 z0 z1 z2 z3 z4 z5 z6 z7 z8 z9 z10
            go_wp2_with fail
            go_ret
            exact ⟨ret_bool (HNT.out.trans HRR.out).symm, HB6.out⟩
          · have c6' : (note == 2) = false := by simp [c6]
            have HRR : Hid (noteQ note dev whom upto f true d.note d.upto rt = false) := by show _ = _; unfold noteQ; simp [c0, c1, c2, c3, c4, c6]
            clear c0 c1 c2 c3 c4 c6
            go_wp2_with fail
            go_ret
            exact ⟨ret_bool (HNT.out.trans HRR.out).symm, HB5.out⟩
    · have e5' : (d.upto == upto) = false := by simp [e5]
      have HE5 := Lib.hid e5
      clear e5
      go_wp2_with fail
      refine wp_region_flow (by kernel_rfl) 9 [(4, ⟨fun v => v = .int .i64 f, fun _ _ _ _ => True⟩)] (by kernel_rfl) ?_ ?_ ?_
      · intro x hx
        simp only [List.mem_cons, List.not_mem_nil, or_false] at hx
        subst hx
        exact ⟨_, rfl⟩
      · intro x hx v lo hi w w' h hb
        simp only [List.mem_cons, List.not_mem_nil, or_false] at hx
        subst hx
        exact trivial
      · intro lo hi
        have kp0 := cell_regrown p0
        have kp1 := cell_regrown p1
        have kp2 := cell_regrown p2
        have kp3 := cell_regrown p3
        have kp4 := cell_regrown p4
        have kp5 := cell_regrown p5
        have kp6 := cell_regrown p6
        have kp7 := cell_regrown p7
        have kp8 := cell_regrown p8
        have kp9 := cell_regrown p9
        have kp10 := cell_regrown p10
        have kz0 := cell_regrown z0
        have kz1 := cell_regrown z1
        have kz2 := cell_regrown z2
        have kz3 := cell_regrown z3
        have kz4 := cell_regrown z4
        have kz5 := cell_regrown z5
        have kz6 := cell_regrown z6
        have kz7 := cell_regrown z7
        have kz8 := cell_regrown z8
        have kz9 := cell_regrown z9
        have kz10 := cell_regrown z10
        refine flowW_plain rfl ?_
        go_big_quiet_step (fail)
        refine wpQuiet_nil ?_
        refine flowW_plain rfl ?_
        go_big_quiet_step (fail)
        refine wpQuiet_nil ?_
        refine flowW_plain rfl ?_
        go_big_quiet_step (fail)
        refine wpQuiet_nil ?_
        refine flowW_plain rfl ?_
        go_big_quiet_step (fail)
        refine wpQuiet_nil ?_
        refine flowW_call rfl rfl ?_ ?_
        · intro W hW hF K hK
          clear kp0 kp1 kp2 kp3 kp4 kp5 kp6 kp7 kp8 kp9 kp10 kz0 kz1 kz2 kz3 kz4 kz5 kz6 kz7 kz8 kz9 kz10
          go_wp2_with fail
          refine (HF0.out ▸ ofV_any _ deps whom _ (HD.out.later (below_then HB4.out hW))).mono ?_
          rintro e wq ⟨rfl, rfl⟩
          go_wp2_with fail
          exact hK _ _ rfl trivial (Below.refl _ _)
        rintro v rfl K hK
        go_simp
        refine hK _ ?_
        clear hK K
        refine flowW_plain rfl ?_
        go_big_quiet_step (fail)
        refine wpQuiet_nil ?_
        refine flowW_plain rfl ?_
        go_big_quiet_step (fail)
        refine wpQuiet_nil ?_
        refine flowW_plain rfl ?_
        go_big_quiet_step (fail)
        refine wpQuiet_nil ?_
        refine flowW_plain rfl ?_
        go_big_quiet_step (fail)
        refine wpQuiet_nil ?_
        refine flowW_end fun w5 hw5 hF hD => ?_
        clear kp0 kp1 kp2 kp3 kp4 kp5 kp6 kp7 kp8 kp9 kp10 kz0 kz1 kz2 kz3 kz4 kz5 kz6 kz7 kz8 kz9 kz10
        simp only [List.drop_succ_cons, List.drop_zero]
        clear hF hD p0 p1 p2 p3 p4 p5 p6 p7 p8 p9 p10 z0 z1 z2 z3 z4 z5 z6 z7 z8 z9 z10
        have HB5 := Lib.hid (below_then HB1.out (below_then HB4.out hw5))
        have HB45 := Lib.hid hw5
        clear hw5
        have p0 := cell_of_box (bx_later (below_then HB4.out HB45.out) BT.out) 0 rfl
        have p1 := cell_of_box (bx_later (below_then HB4.out HB45.out) BT.out) 1 rfl
        have p2 := cell_of_box (bx_later (below_then HB4.out HB45.out) BT.out) 2 rfl
        have p3 := cell_of_box (bx_later (below_then HB4.out HB45.out) BT.out) 3 rfl
        have p4 := cell_of_box (bx_later (below_then HB4.out HB45.out) BT.out) 4 rfl
        have p5 := cell_of_box (bx_later (below_then HB4.out HB45.out) BT.out) 5 rfl
        have p6 := cell_of_box (bx_later (below_then HB4.out HB45.out) BT.out) 6 rfl
        have p7 := cell_of_box (bx_later (below_then HB4.out HB45.out) BT.out) 7 rfl
        have p8 := cell_of_box (bx_later (below_then HB4.out HB45.out) BT.out) 8 rfl
        have p9 := cell_of_box (bx_later (below_then HB4.out HB45.out) BT.out) 9 rfl
        have p10 := cell_of_box (bx_later (below_then HB4.out HB45.out) BT.out) 10 rfl
        have z0 := cell_of_box (bx_later HB45.out BD.out) 0 rfl
        have z1 := cell_of_box (bx_later HB45.out BD.out) 1 rfl
        have z2 := cell_of_box (bx_later HB45.out BD.out) 2 rfl
        have z3 := cell_of_box (bx_later HB45.out BD.out) 3 rfl
        have z4 := cell_of_box (bx_later HB45.out BD.out) 4 rfl
        have z5 := cell_of_box (bx_later HB45.out BD.out) 5 rfl
        have z6 := cell_of_box (bx_later HB45.out BD.out) 6 rfl
        have z7 := cell_of_box (bx_later HB45.out BD.out) 7 rfl
        have z8 := cell_of_box (bx_later HB45.out BD.out) 8 rfl
        have z9 := cell_of_box (bx_later HB45.out BD.out) 9 rfl
        have z10 := cell_of_box (bx_later HB45.out BD.out) 10 rfl
        obtain ⟨fw, hfw⟩ : ∃ fw, decide (f ≤ upto) = fw := ⟨_, rfl⟩
        by_cases c1 : whom = 1
        · have c1' : (whom == 1) = true := by simp [c1]
          have HRR : Hid (noteQ note dev whom upto f true d.note d.upto rt = false) := by show _ = _; unfold noteQ; simp [c0, c1]
          clear c0 c1
          go_wp2_with fail
          go_ret
          exact ⟨ret_bool (HNT.out.trans HRR.out).symm, HB5.out⟩
        have c1' : (whom == 1) = false := by simp [c1]
        by_cases c2 : whom = dev
        · have c2' : (whom == dev) = true := by simp [c2]
          have HRR : Hid (noteQ note dev whom upto f true d.note d.upto rt = false) := by show _ = _; unfold noteQ; simp [c0, c2]
          clear c0 c1 c2
          go_wp2_with fail
          go_ret
          exact ⟨ret_bool (HNT.out.trans HRR.out).symm, HB5.out⟩
        have c2' : (whom == dev) = false := by simp [c2]
        by_cases c3 : d.note = 2
        · have c3' : (d.note == 2) = true := by simp [c3]
          have HRR : Hid (noteQ note dev whom upto f true d.note d.upto rt = false) := by show _ = _; unfold noteQ; simp [c0, c1, c2, c3]
          clear c0 c1 c2 c3
          go_wp2_with fail
          go_ret
          exact ⟨ret_bool (HNT.out.trans HRR.out).symm, HB5.out⟩
        have c3' : (d.note == 2) = false := by simp [c3]
        by_cases c4 : note = 1
        · have c4' : (note == 1) = true := by simp [c4]
          cases fw
          · have hfw' := of_decide_eq_false hfw
            have HRR : Hid (noteQ note dev whom upto f true d.note d.upto rt = false) := by show _ = _; unfold noteQ; simp [c1, c2, c3, HE5.out, c4, hfw']
            clear c0 c1 c2 c3 c4 hfw'
            go_wp2_with fail
            go_ret
            exact ⟨ret_bool (HNT.out.trans HRR.out).symm, HB5.out⟩
          · have hfw' := of_decide_eq_true hfw
            by_cases c5 : dev = 1
            · have c5' : (dev == 1) = true := by simp [c5]
              have HRR : Hid (noteQ note dev whom upto f true d.note d.upto rt = true) := by show _ = _; unfold noteQ; simp [c1, c3, HE5.out, c4, hfw', c5]
              clear c0 c1 c2 c3 c4 hfw' c5
              go_wp2_with fail
              go_ret
              exact ⟨ret_bool (HNT.out.trans HRR.out).symm, HB5.out⟩
            · have c5' : (dev == 1) = false := by simp [c5]
              have HRR : Hid (noteQ note dev whom upto f true d.note d.upto rt = false) := by show _ = _; unfold noteQ; simp [c1, c2, c3, HE5.out, c4, hfw', c5]
              clear c0 c1 c2 c3 c4 hfw' c5
              go_wp2_with fail
              go_ret
              exact ⟨ret_bool (HNT.out.trans HRR.out).symm, HB5.out⟩
        · have c4' : (note == 1) = false := by simp [c4]
          by_cases c6 : note = 2
          · have c6' : (note == 2) = true := by simp [c6]
            have HRR : Hid (noteQ note dev whom upto f true d.note d.upto rt = false) := by show _ = _; unfold noteQ; simp [c1, c2, c3, HE5.out, c6]
            clear c0 c1 c2 c3 c4 c6
            go_wp2_with fail
            go_ret
            exact ⟨ret_bool (HNT.out.trans HRR.out).symm, HB5.out⟩
          · have c6' : (note == 2) = false := by simp [c6]
            have HRR : Hid (noteQ note dev whom upto f true d.note d.upto rt = false) := by show _ = _; unfold noteQ; simp [c0, c1, c2, c3, c4, c6]
            clear c0 c1 c2 c3 c4 c6
            go_wp2_with fail
            go_ret
            exact ⟨ret_bool (HNT.out.trans HRR.out).symm, HB5.out⟩
end Go.Proofs.YtnolbabpkhdpmaaGreat
