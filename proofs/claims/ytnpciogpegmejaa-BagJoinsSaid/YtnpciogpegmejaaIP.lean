/-
  slices.Insert of one element, for elements of 11 cells. (printed by tools/gen_in.py)
-/
import Derived.Test.YtnpciogpegmejaaIN
import Derived.Test.YtnpciogpegmejaaRI
import Derived.Test.YtnpciogpegmejaaMQ
import Derived.Deep.RegionHeld3
namespace Go.Proofs.Ytnpciogpegmejaa
open Go.RowKit Go.Sort Go.BigFrame

theorem elP : El Try.prog 24 43 11 96 (.agg #[.int .i64 0, .int .i64 0, .string ⟨#[]⟩, .int .i64 0, .int .i64 0, .int .i64 0, .int .i64 0, .int .i64 0, .int .i64 0, .int .i64 0, .bool false]) := El.mk' (by kernel_rfl) (by kernel_rfl) rfl (by decide)

def InsPostP (B : Nat) (v : Value) (n i : Nat) (xs ys : List Value) (w : World) (e : Ending) (w' : World) : Prop :=
  ∃ v', e = .returned v' ∧ w'.ownsRow B 43 11 v' (n + 1) (xs.take (i * 11) ++ ys ++ xs.drop (i * 11)) ∧ w.grownBy w' v.ownBlock

set_option maxRecDepth 100000 in
set_option maxHeartbeats 2000000 in
/-- At the end. -/
theorem insertP_end (B : Nat) (v : Value) (n : Nat) (xs ys : List Value) (w : World) (q : Nat) (hown : w.ownsRow B 43 11 v n xs) (hq : w.heap[q]? = some (.cells ys.toArray 43 (0, 0)))
    (hyl : ys.length = 11) (hy1 : ∀ u ∈ ys, u.oneCell' = true) (hn : n ≤ 1000000) (hB : B ≤ w.heap.size) :
    Calls Try.prog 44 #[v, .int .i64 n, .slice (some ⟨q, 0, none⟩) 1 1] w (InsPostP B v n n xs ys w) := by
  obtain ⟨ao, c, rfl, hnc, hcm, _, _⟩ := Rd.of_own hown
  have hq0 : Rd w (.slice (some ⟨q, 0, none⟩) 1 1) 1 ys := rd_block hq (by rw [hyl])
  have hsrc : Src Try.prog w 11 (.slice (some ⟨q, 0, none⟩) 1 1) 1 ys := Src.of_rd hq0 (by rw [hyl])
  obtain ⟨a', c', hlo, _⟩ := run_part_lo elP (Rd.of_own hown) hown.1 n (Nat.le_refl _)
  have HO := Lib.hid hown
  have HS := Lib.hid hsrc
  have HY := Lib.hid hy1
  have HB := Lib.hid hB
  have HC := Lib.hid hcm
  clear hown hsrc hy1 hq0 hq hB hcm
  go_enter Try.func44, Try.ntmps44
  go_wp2_with (at_builtin; refine wpList_app elP ⟨_, elP.ty, fun k h => by cases h⟩ rfl (.tmp 23) (.tmp 24) rfl rfl rfl HO.out HS.out HY.out (by simp only [maxLen]; omega) (by omega) HB.out ?_; intro v1 w1 own1 grow1 blk1)
  have HO1 := Lib.hid own1
  have HG1 := Lib.hid grow1
  clear own1 grow1 blk1
  go_wp2_with fail
  go_ret
  refine ⟨_, rfl, ?_, HG1.out⟩
  have := HO1.out
  rw [List.take_of_length_le (by rw [HO.out.1]; exact Nat.le_refl _), List.drop_of_length_le (by rw [HO.out.1]; exact Nat.le_refl _), List.append_nil]
  exact this

set_option maxRecDepth 100000 in
set_option maxHeartbeats 4000000 in
/-- Where there is no room: a new row. -/
theorem insertP_new (B g c : Nat) (n i : Nat) (xs ys : List Value) (w : World) (q : Nat) (hown : w.ownsRow B 43 11 (.slice (some ⟨g, 0, none⟩) n c) n xs) (hq : w.heap[q]? = some (.cells ys.toArray 43 (0, 0)))
    (hyl : ys.length = 11) (hy1 : ∀ u ∈ ys, u.oneCell' = true) (hx1 : ∀ u ∈ xs, u.oneCell' = true) (hi : i < n) (hc : c < n + 1) (hn : n ≤ 1000000) (hB : B ≤ w.heap.size) :
    Calls Try.prog 44 #[.slice (some ⟨g, 0, none⟩) n c, .int .i64 i, .slice (some ⟨q, 0, none⟩) 1 1] w (InsPostP B (.slice (some ⟨g, 0, none⟩) n c) n i xs ys w) := by
  have hnc : n ≤ c := by
    rcases hown.2 with ⟨h, _⟩ | ⟨g', c', cur, h, _, _, hnc, _⟩
    · cases h
    · cases h; exact hnc
  have hcells := hown.cells (g := g) rfl
  have hxl := hown.1
  obtain ⟨m, hm⟩ : ∃ m, i + m = n + 1 := ⟨n + 1 - i, by omega⟩
  obtain ⟨cap, cs, h1, h2, h3, h4, happ⟩ := run_app_zeros_own (ty := 24) w elP Try.underlying3 hown (i := i) (m := m) (by omega) (by omega) (by unfold maxLen; omega) (by omega)
  rw [hm] at happ h1
  obtain ⟨O1, L1, C1, hs1, hO1, hL1⟩ := lo_ex elP (g := g) (n := n) (c := c) (l := i) rfl hi hnc
  have hs2 := hi_ex elP (g := g) (n := n) (c := c) (l := i) rfl (by omega)
  obtain ⟨W1, hW1⟩ : ∃ W1, w.drew.alloc (.cells cs 43) = W1 := ⟨_, rfl⟩
  have hb1 : Below w.heap.size w W1 := by rw [← hW1]; exact below_of_drew (below_alloc w.drew _)
  have hG1 : W1.heap[w.heap.size]? = some (.cells cs 43 (0, 0)) := by rw [← hW1]; exact heap_alloc_new w.drew _
  rw [hW1] at happ
  obtain ⟨O3, L3, C3, hs3, hO3, hL3⟩ := lo_ex elP (g := w.heap.size) (n := n + 1) (c := cap) (l := i) rfl (by omega) h1
  obtain ⟨O4, L4, C4, hs4, hO4, hL4⟩ := lo_ex elP (g := w.heap.size) (n := n + 1) (c := cap) (l := i + 1) (x := (i : Int) + 1) (by omega) (by omega) h1
  have hcsl : cs.toList.length = cap * 11 := by rw [Array.length_toList, h3]
  have hqW : W1.heap[q]? = some (.cells ys.toArray 43 (0, 0)) := by rw [hb1.block q (Array.getElem?_eq_some_iff.1 hq).1]; exact hq
  have hcp1 := fun ty => run_copy_k (P := Try.prog) (ty := ty) elP W1 (b := w.heap.size) (o := O3) (dLen := L3) (dCap := C3) (sLen := 1) (sCap := 1) (n := 1) (a := ⟨q, 0, none⟩) (cur := cs) (cs := ys) (by rw [hL3]; simp only [Nat.min_def]; split <;> omega) (by rw [hyl])
    (fun j u hj => by rw [Addr.add_lit]; rw [Nat.zero_add]; exact block_cell hqW hj) hG1 (by rw [hO3, hyl, h3]; omega) hy1
  obtain ⟨D1, hD1⟩ : ∃ D1, (cs.toList.take O3 ++ ys ++ cs.toList.drop (O3 + ys.length)) = D1 := ⟨_, rfl⟩
  rw [hD1] at hcp1
  obtain ⟨W2, hW2⟩ : ∃ W2, W1.setRow w.heap.size D1.toArray = W2 := ⟨_, rfl⟩
  have hG2 : W2.drew.heap[w.heap.size]? = some (.cells D1.toArray 43 (0, 0)) := by rw [← hW2]; exact setRow_heap W1 w.heap.size cs _ 43 _ hG1
  have hgr2 : w.grownBy W2 (Value.ownBlock (.slice (some ⟨g, 0, none⟩) n c)) := by
    refine grown_new (grown_of_below hb1) (Nat.le_refl _) ?_
    rw [← hW2]; exact setRow_grown W1 _ _
  rw [hW2] at hcp1
  have hgne : g ≠ w.heap.size := by have := (hown.lt g rfl).2; omega
  have hold : ∀ j u, xs[j]? = some u → W2.drew.cell? ((⟨g, 0, none⟩ : Addr).add j) = some u := by
    intro j u hj
    have h0 := cell_later hb1 (hcells j u hj)
    rw [← hW2]
    show (W1.setRow w.heap.size D1.toArray).cell? _ = _
    rw [World.cell?_of_block (w := W1) (setRow_other W1 _ _ _ (by rw [addr_add_block]; exact hgne))]
    exact h0
  have hD1l : D1.length = cap * 11 := by rw [← hD1]; simp only [List.length_append, List.length_take, List.length_drop, hcsl, hyl, hO3]; omega
  have hxd : (xs.drop O1).length = (n - i) * 11 := by rw [List.length_drop, hxl, hO1]; omega
  have hcp2 := fun ty => run_copy_k (P := Try.prog) (ty := ty) elP W2.drew (b := w.heap.size) (o := O4) (dLen := L4) (dCap := C4) (sLen := L1) (sCap := C1) (n := n - i) (a := ⟨g, O1, none⟩) (cur := D1.toArray) (cs := xs.drop O1) (by rw [hL4, hL1]; simp only [Nat.min_def]; split <;> omega) hxd
    (fun j u hj => by
      have h5 := hold (O1 + j) u (by rw [List.getElem?_drop] at hj; exact hj)
      rw [Addr.add_lit] at h5 ⊢
      rw [Nat.zero_add] at h5; exact h5) hG2 (by rw [hxd, hO4, List.size_toArray, hD1l]; omega) (fun u hu => hx1 u (List.mem_of_mem_drop hu))
  obtain ⟨D2, hD2⟩ : ∃ D2, (D1.toArray.toList.take O4 ++ xs.drop O1 ++ D1.toArray.toList.drop (O4 + (xs.drop O1).length)) = D2 := ⟨_, rfl⟩
  rw [hD2] at hcp2
  obtain ⟨W3, hW3⟩ : ∃ W3, W2.drew.setRow w.heap.size D2.toArray = W3 := ⟨_, rfl⟩
  have hG3 : W3.heap[w.heap.size]? = some (.cells D2.toArray 43 (0, 0)) := by rw [← hW3]; exact setRow_heap W2.drew w.heap.size _ _ 43 _ hG2
  have hgr3 : w.grownBy W3 (Value.ownBlock (.slice (some ⟨g, 0, none⟩) n c)) := by
    refine grown_new (grown_drew hgr2) (Nat.le_refl _) ?_
    rw [← hW3]; exact setRow_grown W2.drew _ _
  rw [hW3] at hcp2
  have hsh := shift_new (c := cs.toList) (xs := xs) (ys := ys) (a := i * 11) (k := 11) (m := n * 11) h4 (by rw [hcsl]; omega) hxl (by omega) hyl (c1 := D1) (c2 := D2) (by rw [← hD1, hO3]) (by rw [← hD2, hO4, hO1, show (i + 1) * 11 = i * 11 + 11 by omega])
  have hfin : W3.ownsRow B 43 11 (.slice (some ⟨w.heap.size, 0, none⟩) (n + 1) cap) (n + 1) (xs.take (i * 11) ++ ys ++ xs.drop (i * 11)) := by
    refine ⟨?_, .inr ⟨w.heap.size, cap, D2.toArray, rfl, hB, hG3, h1, h2, ?_, ?_⟩⟩
    · simp only [List.length_append, List.length_take, List.length_drop, hxl, hyl]; omega
    · rw [List.size_toArray, hsh.2.1, hcsl]
    · rw [show (n + 1) * 11 = n * 11 + 11 by omega]; exact hsh.1
  have HF := Lib.hid hfin
  have HG := Lib.hid hgr3
  have HA := Lib.hid happ
  have HC1 := Lib.hid hcp1
  have HC2 := Lib.hid hcp2
  have hmi : (n : Int) + 1 - (i : Int) = (m : Int) := by omega
  have hne : ((i : Int) == (n : Int)) = false := by simp; omega
  have hne2 : ¬ (i : Int) = (n : Int) := by omega
  have hgt : (c : Int) < (n : Int) + 1 := by omega
  have hgt2 : decide ((c : Int) < (n : Int) + 1) = true := decide_eq_true hgt
  have hwr : IntKind.i64.wrap ((i : Int) + 1) = (i : Int) + 1 := by rw [IntKind.wrap_i64]; omega
  have hp1 : (0 : Int) ≤ (i : Int) + 1 := by omega
  have hm1 : m ≤ 1000001 := by omega
  clear hfin hgr3 happ hcp1 hcp2 hsh hG3 hW3 hD2 hxd hD1l hold hgne hgr2 hG2 hW2 hD1 hqW hcsl hO3 hL3 hO4 hL4 hG1 hb1 hW1 hO1 hL1 h1 h2 h3 h4 hcells hxl hown hq hyl hy1 hx1 hB hm hgt
  go_enter Try.func44, Try.ntmps44
  go_wp2_with (first
    | (at_builtin; refine wpList_app_run rfl (.tmp 34) (.tmp 39) 24 3 rfl _ _ rfl rfl HA.out ?_)
    | (refine wpList_copy_run (o := ⟨some 45, _, _, _, _, _⟩) rfl (.tmp 43) (.tmp 44) 24 24 rfl _ _ rfl rfl (HC1.out _) ?_))
  go_region_held3 (fun _ => True) (trivial) ((refine step_copy_run (by rfl) (.tmp 50) (.tmp 53) 24 24 (by rfl) _ _ (by simp [Act.eval]) (by simp [Act.eval]) (HC2.out _) ?_))
  go_wp2_with fail
  go_ret
  exact ⟨_, rfl, HF.out, HG.out⟩

set_option maxRecDepth 100000 in
set_option maxHeartbeats 4000000 in
/-- Where there is room: in place. -/
theorem insertP_room (B g c : Nat) (n i : Nat) (xs ys : List Value) (w : World) (q : Nat) (hown : w.ownsRow B 43 11 (.slice (some ⟨g, 0, none⟩) n c) n xs) (hq : w.heap[q]? = some (.cells ys.toArray 43 (0, 0))) (hgq : g ≠ q)
    (hyl : ys.length = 11) (hy1 : ∀ u ∈ ys, u.oneCell' = true) (hx1 : ∀ u ∈ xs, u.oneCell' = true) (hi : i < n) (hc : n + 1 ≤ c) (hn : n ≤ 1000000) :
    Calls Try.prog 44 #[.slice (some ⟨g, 0, none⟩) n c, .int .i64 i, .slice (some ⟨q, 0, none⟩) 1 1] w (InsPostP B (.slice (some ⟨g, 0, none⟩) n c) n i xs ys w) := by
  have hcells := hown.cells (g := g) rfl
  have hxl := hown.1
  have hlt := hown.lt g rfl
  obtain ⟨cur, hbg, hg, hcm, hcs, htk⟩ : ∃ cur, B ≤ g ∧ w.heap[g]? = some (.cells cur 43 (0, 0)) ∧ c ≤ maxLen ∧ cur.size = c * 11 ∧ cur.toList.take (n * 11) = xs := by
    rcases hown.2 with ⟨h, _⟩ | ⟨g', c', cur, h, h1, h2, _, h3, h4, h5⟩
    · cases h
    · cases h; exact ⟨cur, h1, h2, h3, h4, h5⟩
  obtain ⟨O0, L0, C0, hs0, _, _⟩ := lo_ex elP (g := g) (n := n) (c := c) (l := i) rfl hi (by omega)
  have hs1 := hi_ex elP (g := g) (n := n) (c := c) (l := n + 1) (x := (n : Int) + 1) (by omega) hc
  obtain ⟨O1, L1, C1, hs2, hO1, hL1⟩ := lo_ex elP (g := g) (n := n + 1) (c := c) (l := i) rfl (by omega) hc
  obtain ⟨O2, L2, C2, hs3, hO2, hL2⟩ := lo_ex elP (g := g) (n := n + 1) (c := c) (l := i + 1) (x := (i : Int) + 1) (by omega) (by omega) hc
  have hcl : cur.toList.length = c * 11 := by rw [Array.length_toList, hcs]
  have hov : (callFunc 62 #[.slice (some ⟨q, 0, none⟩) 1 1, .slice (some ⟨g, O2, none⟩) L2 C2]).run Try.prog w = .ok (.value (.bool false)) w := by
    rw [run_callFunc_extern Try.func62 (by kernel_rfl) (by kernel_rfl) (by kernel_rfl) (e := Extern.SlicesOverlaps.overlaps #[24, 24] #[4]) (by kernel_rfl),
      Lib.run_overlaps_apart w 24 4 43 Try.underlying24 11 (fun w => by obtain ⟨j, hj, _, hz1, _⟩ := elP.info; simp [sizeOf, typeInfo, hj, hz1]) ⟨q, 0, none⟩ ⟨g, O2, none⟩ 1 1 L2 C2 hgq.symm 43 43 11 cur.size
        (by simp [World.shape?, hq, hyl]) (by simp [World.shape?, hg]) (by rw [hcs]; omega) (by simp [World.frozen?, hq]) (by simp [World.frozen?, hq])]
    rfl
  have hxd : (xs.drop O1).length = (n - i) * 11 := by rw [List.length_drop, hxl, hO1]; omega
  have hcp1 := fun ty => run_copy_k (P := Try.prog) (ty := ty) elP w.drew (b := g) (o := O2) (dLen := L2) (dCap := C2) (sLen := L1) (sCap := C1) (n := n - i) (a := ⟨g, O1, none⟩) (cur := cur) (cs := xs.drop O1) (by rw [hL2, hL1]; simp only [Nat.min_def]; split <;> omega) hxd
    (fun j u hj => by
      have h5 := hcells (O1 + j) u (by rw [List.getElem?_drop] at hj; exact hj)
      rw [Addr.add_lit] at h5 ⊢
      rw [Nat.zero_add] at h5; exact h5) hg (by rw [hxd, hO2, hcs]; omega) (fun u hu => hx1 u (List.mem_of_mem_drop hu))
  obtain ⟨D1, hD1⟩ : ∃ D1, (cur.toList.take O2 ++ xs.drop O1 ++ cur.toList.drop (O2 + (xs.drop O1).length)) = D1 := ⟨_, rfl⟩
  rw [hD1] at hcp1
  obtain ⟨W1, hW1⟩ : ∃ W1, w.drew.setRow g D1.toArray = W1 := ⟨_, rfl⟩
  have hG1 : W1.heap[g]? = some (.cells D1.toArray 43 (0, 0)) := by rw [← hW1]; exact setRow_heap w.drew g cur _ 43 _ hg
  have hgr1 : w.grownBy W1 (some g) := by rw [← hW1]; exact grown_trans (grown_drew (grown_of_below (Below.refl _ _))) (setRow_grown w.drew g _)
  rw [hW1] at hcp1
  have hqW : W1.heap[q]? = some (.cells ys.toArray 43 (0, 0)) := by
    rw [← hW1]
    exact (setRow_other w.drew g q _ hgq.symm).trans hq
  have hD1l : D1.length = c * 11 := by rw [← hD1]; simp only [List.length_append, List.length_take, List.length_drop, hcl, hxl, hO2, hO1]; omega
  have hcp2 := fun ty => run_copy_k (P := Try.prog) (ty := ty) elP W1 (b := g) (o := O1) (dLen := L1) (dCap := C1) (sLen := 1) (sCap := 1) (n := 1) (a := ⟨q, 0, none⟩) (cur := D1.toArray) (cs := ys) (by rw [hL1]; simp only [Nat.min_def]; split <;> omega) (by rw [hyl])
    (fun j u hj => by rw [Addr.add_lit]; rw [Nat.zero_add]; exact block_cell hqW hj) hG1 (by rw [hyl, hO1, List.size_toArray, hD1l]; omega) hy1
  obtain ⟨D2, hD2⟩ : ∃ D2, (D1.toArray.toList.take O1 ++ ys ++ D1.toArray.toList.drop (O1 + ys.length)) = D2 := ⟨_, rfl⟩
  rw [hD2] at hcp2
  obtain ⟨W2, hW2⟩ : ∃ W2, W1.setRow g D2.toArray = W2 := ⟨_, rfl⟩
  have hG2 : W2.heap[g]? = some (.cells D2.toArray 43 (0, 0)) := by rw [← hW2]; exact setRow_heap W1 g _ _ 43 _ hG1
  have hgr2 : w.grownBy W2 (some g) := by rw [← hW2]; exact grown_trans hgr1 (setRow_grown W1 g _)
  rw [hW2] at hcp2
  have hsh := shift_in (c := cur.toList) (xs := xs) (ys := ys) (a := i * 11) (k := 11) (m := n * 11) htk (by rw [hcl]; omega) (by omega) hyl (c1 := D1) (c2 := D2) (by rw [← hD1, hO2, hO1, show (i + 1) * 11 = i * 11 + 11 by omega]) (by rw [← hD2, hO1])
  have hfin : W2.ownsRow B 43 11 (.slice (some ⟨g, 0, none⟩) (n + 1) c) (n + 1) (xs.take (i * 11) ++ ys ++ xs.drop (i * 11)) := by
    refine ⟨?_, .inr ⟨g, c, D2.toArray, rfl, hbg, hG2, hc, hcm, ?_, ?_⟩⟩
    · simp only [List.length_append, List.length_take, List.length_drop, hxl, hyl]; omega
    · rw [List.size_toArray, hsh.2.1, hcl]
    · rw [show (n + 1) * 11 = n * 11 + 11 by omega]; exact hsh.1
  have HF := Lib.hid hfin
  have HG := Lib.hid hgr2
  have HC1 := Lib.hid hcp1
  have HC2 := Lib.hid hcp2
  have hne : ((i : Int) == (n : Int)) = false := by simp; omega
  have hne2 : ¬ (i : Int) = (n : Int) := by omega
  have hgt : ¬ (c : Int) < (n : Int) + 1 := by omega
  have hgt2 : decide ((c : Int) < (n : Int) + 1) = false := decide_eq_false hgt
  have hwr : IntKind.i64.wrap ((i : Int) + 1) = (i : Int) + 1 := by rw [IntKind.wrap_i64]; omega
  have hp1 : (0 : Int) ≤ (i : Int) + 1 := by omega
  unfold maxLen at hcm
  clear hfin hgr2 hcp1 hcp2 hsh hG2 hW2 hD2 hxd hD1l hqW hgr1 hG1 hW1 hD1 hcl hO1 hL1 hO2 hL2 hcells hxl hown hq hyl hy1 hx1 hgt htk hcs hg hbg hlt hgq
  go_enter Try.func44, Try.ntmps44
  go_wp2_with (simp only [hov])
  go_region_held3 (fun _ => True) (trivial) ((refine step_copy_run (by rfl) (.tmp 73) (.tmp 76) 24 24 (by rfl) _ _ (by simp [Act.eval]) (by simp [Act.eval]) (HC1.out _) ?_))
  go_wp2_with (refine wpList_copy_run (o := ⟨some 82, _, _, _, _, _⟩) rfl (.tmp 80) (.tmp 81) 24 24 rfl _ _ rfl rfl (HC2.out _) ?_)
  go_ret
  exact ⟨_, rfl, HF.out, HG.out⟩

/-- slices.Insert of one element into what the call owns. -/
theorem insertP_any (B : Nat) (v : Value) (n i : Nat) (xs ys : List Value) (w : World) (q : Nat) (hown : w.ownsRow B 43 11 v n xs) (hq : w.heap[q]? = some (.cells ys.toArray 43 (0, 0))) (hvq : v.ownBlock ≠ some q)
    (hyl : ys.length = 11) (hy1 : ∀ u ∈ ys, u.oneCell' = true) (hx1 : ∀ u ∈ xs, u.oneCell' = true) (hi : i ≤ n) (hn : n ≤ 1000000) (hB : B ≤ w.heap.size) :
    Calls Try.prog 44 #[v, .int .i64 i, .slice (some ⟨q, 0, none⟩) 1 1] w (InsPostP B v n i xs ys w) := by
  rcases Nat.lt_or_ge i n with h | h
  · have hform : ∃ g c, v = .slice (some ⟨g, 0, none⟩) n c ∧ n ≤ c := by
      rcases hown.2 with ⟨_, hz⟩ | ⟨g, c, cur, rfl, _, _, hnc, _⟩
      · omega
      · exact ⟨g, c, rfl, hnc⟩
    obtain ⟨g, c, rfl, hnc⟩ := hform
    by_cases hc : c < n + 1
    · exact insertP_new B g c n i xs ys w q hown hq hyl hy1 hx1 h hc hn hB
    · exact insertP_room B g c n i xs ys w q hown hq (fun e => hvq (by rw [e]; rfl)) hyl hy1 hx1 h (by omega) hn
  · obtain rfl : i = n := by omega
    exact insertP_end B v i xs ys w q hown hq hyl hy1 hn hB
end Go.Proofs.Ytnpciogpegmejaa
