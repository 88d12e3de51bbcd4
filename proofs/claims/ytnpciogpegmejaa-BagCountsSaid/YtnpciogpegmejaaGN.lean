/-
  Layer 9 (bag): Numbers, Show. (printed by tools/gen_gn.py)
-/
import Derived.Test.YtnpciogpegmejaaGA
import Derived.Test.YtnpciogpegmejaaGQ
import Derived.Test.YtnpciogpegmejaaGH
import Derived.Lib.OwnBridge
namespace Go.Proofs.Ytnpciogpegmejaa
open Go.RowKit Go.Sort Go.BigFrame

theorem own_snocN {w : World} {B E : Nat} {v : Value} {l : List Int} {x : Int} (h : w.ownsRow B E 1 v (l.length + 1) (l.map ic ++ [ic x])) : w.ownsRow B E 1 v (l ++ [x]).length ((l ++ [x]).map ic) := by
  rw [List.length_append, List.map_append]; exact h
def NumsPost (w : World) (M : List Int) (e : Ending) (w' : World) : Prop := ∃ a c, e = .returned (.slice a M.length c) ∧ Rd w' (.slice a M.length c) M.length (M.map ic) ∧ Below w.heap.size w w'

/-- slices.Sort, then slices.Compact, of numbers that the call owns. -/
def SortedPost (B : Nat) (a : Option Addr) (n c : Nat) (zs : List Int) (w : World) (e : Ending) (w' : World) : Prop := e = .returned (.tuple #[]) ∧ w'.ownsRow B 3 1 (.slice a n c) n (zs.map ic) ∧ Below B w w'
theorem sortI_any (B : Nat) (a : Option Addr) (n c : Nat) (zs : List Int) (w : World) (hn : n = zs.length) (h : w.ownsRow B 3 1 (.slice a n c) n (zs.map ic)) (hB : B ≤ w.heap.size) (hl : zs.length ≤ 1000000) :
    Calls Try.prog 54 #[.slice a n c] w (SortedPost B a n c (sortZ zs) w) := by
  subst hn
  by_cases hv : Value.slice a zs.length c = .slice none 0 0
  · have hz : zs = [] := by
      have : zs.length = 0 := by injection hv
      exact List.eq_nil_of_length_eq_zero this
    subst hz
    have hs : sortZ [] = [] := by unfold sortZ; simp
    injection hv with ha _ hc
    subst ha hc
    refine (slices_Sort_int_none none 0 w).mono ?_
    rintro e w' ⟨rfl, rfl⟩
    rw [hs]
    exact ⟨rfl, h, Below.refl _ _⟩
  · obtain ⟨g, cap, e0, hbg, hlt, hnc, hcm, _, hH⟩ := Lib.holds_of_ownsRow h hv
    injection e0 with e1 _ e3
    subst e1 e3
    refine (slices_Sort_int g 0 c zs w hH hlt (by omega)).mono ?_
    rintro e w' ⟨rfl, q, os, rfl⟩
    have ho := Lib.ownsRow_putRow (q := q) (k := zs.length) (ys := sortZ zs) h (sortZ_perm zs).length_eq (Nat.le_refl _)
    rw [List.take_of_length_le (Nat.le_of_eq (sortZ_perm zs).length_eq)] at ho
    have hg : Below (putRow (Value.int .i64) (Sort.ahead w q) g 0 (sortZ zs).toArray).heap.size (putRow (Value.int .i64) (Sort.ahead w q) g 0 (sortZ zs).toArray) (grow (putRow (Value.int .i64) (Sort.ahead w q) g 0 (sortZ zs).toArray) os) := below_regrown _ _ os
    refine ⟨rfl, own_later ho hg, (Lib.below_putRow (Below.refl B w) hbg).trans (hg.mono ?_)⟩
    simpa [putRow, mapBlock, Sort.ahead] using hB
def CompPost (B : Nat) (M : List Int) (w : World) (e : Ending) (w' : World) : Prop := ∃ a c, e = .returned (.slice a M.length c) ∧ Rd w' (.slice a M.length c) M.length (M.map ic) ∧ Below B w w'
theorem compI_any (B : Nat) (a : Option Addr) (n c : Nat) (zs : List Int) (w : World) (hn : n = zs.length) (h : w.ownsRow B 3 1 (.slice a n c) n (zs.map ic)) (hl : zs.length ≤ 1000000) :
    Calls Try.prog 55 #[.slice a n c] w (CompPost B (Lib.compact zs) w) := by
  subst hn
  by_cases hv : Value.slice a zs.length c = .slice none 0 0
  · have hz : zs = [] := by
      have : zs.length = 0 := by injection hv
      exact List.eq_nil_of_length_eq_zero this
    subst hz
    injection hv with ha _ hc
    subst ha hc
    refine (slices_Compact_int_empty none 0 w).mono ?_
    rintro e w' ⟨rfl, rfl⟩
    exact ⟨none, 0, rfl, Rd.of_own h, Below.refl _ _⟩
  · obtain ⟨g, cap, e0, hbg, hlt, hnc, hcm, _, hH⟩ := Lib.holds_of_ownsRow h hv
    injection e0 with e1 _ e3
    subst e1 e3
    refine (slices_Compact_int g 0 c zs w hH (by omega) hnc).mono ?_
    rintro e w' ⟨rfl, q, rfl⟩
    have hcl := compact_len zs
    have ho := Lib.ownsRow_putRow (q := q) (k := (Lib.compact zs).length) (ys := Lib.compact zs ++ List.replicate (zs.length - (Lib.compact zs).length) 0) h (by rw [List.length_append, List.length_replicate]; omega) hcl
    rw [List.take_left] at ho
    exact ⟨_, _, rfl, Rd.of_own ho, Lib.below_putRow (Below.refl B w) hbg⟩

set_option maxRecDepth 100000 in
set_option maxHeartbeats 4000000 in
theorem numbers_any (kd ck cn : Int) (cs : ByteArray) (va : Value) (l : List Prt) (w : World) (ha : PRd w va l) (hl : l.length ≤ 1000) :
    Calls Try.prog 31 #[.agg #[.int .i64 kd, .int .i64 ck, .int .i64 cn, .string cs, va]] w (NumsPost w (numsL l)) := by
  obtain ⟨ao, cc, rfl, hnc, hcm, -, -⟩ := id ha
  have hb1 := below_alloc w (.cells #[.int .i64 kd, .int .i64 ck, .int .i64 cn, .string cs, .slice ao l.length cc] 26)
  obtain ⟨n, hln⟩ : ∃ n, l.length = n := ⟨_, rfl⟩
  have HA := Lib.hid ha
  have HLN := Lib.hid hln
  have HB1 := Lib.hid hb1
  rw [hln] at hnc hl HB1 ⊢
  unfold maxLen at hcm
  clear ha hln hb1
  go_enter Try.func31, Try.ntmps31
  go_wp2_with fail
  go_loopw [3, 9] (fun vo vi wr => ∃ k : Nat, k ≤ n ∧ vi = .int .i64 k ∧ Hid (wr.ownsRow w.heap.size 3 1 vo ((l.take k).map fun p => p.v.n).length (((l.take k).map fun p => p.v.n).map ic)) ∧ Hid (Below w.heap.size w wr)) (fun _ vi _ => n - (intOf vi).toNat)
  case atStart => exact ⟨0, Nat.zero_le _, rfl, World.ownsRow_nil _ _ _ _, HB1.out⟩
  case round =>
    obtain ⟨k, hk, rfl, ho, hbw⟩ := hrel
    rename World => wr
    by_cases hlt : k < n
    · have hkl : k < l.length := by have := HLN.out; omega
      obtain ⟨x, hx⟩ : ∃ x, l[k] = x := ⟨_, rfl⟩
      obtain ⟨b1, o1, x1, c0, c1, c2, c3, c4, c5, c6, c7, c8, c9, c10, _⟩ := rd_prt (HA.out.later hbw.out) rfl k hkl hx
      rw [HLN.out] at x1
      have hnx : (l.take (k + 1)).map (fun p => p.v.n) = (l.take k).map (fun p => p.v.n) ++ [x.v.n] := by
        rw [List.take_succ_eq_append_getElem hkl, List.map_append, hx]; rfl
      obtain ⟨O, hO⟩ : ∃ O, (l.take k).map (fun p => p.v.n) = O := ⟨_, rfl⟩
      rw [hO] at hnx ho
      have hol : O.length = k := by rw [← hO, List.length_map, List.length_take]; omega
      have hbx := below_alloc wr (.cells #[.int .i64 x.v.k, .int .i64 x.v.n, .string x.v.s, .int .i64 x.d.dev, .int .i64 x.d.seq, .int .i64 x.at_, .int .i64 x.tm, .int .i64 x.aft.dev, .int .i64 x.aft.seq, .int .i64 x.aat, .bool x.gone] 43)
      have HOX := Lib.hid (own_later ho.out hbx)
      have HBX := Lib.hid (below_then hbw.out hbx)
      have HNX := Lib.hid hnx
      have HOL := Lib.hid hol
      clear hx hnx hO hol hbx
      go_wp2_with (at_builtin; refine wpList_pushH elInts rfl (.tmp 13) (.tmp 17) rfl (H := wr.heap.size + 1) (by simp) rfl rfl HOX.out rfl rfl (by have := HOL.out; simp only [maxLen]; omega) (by have := HOL.out; omega) HBX.out.size ?_; intro v4 w4 own4 grow4 _blk4; have HO4 := Lib.hid (own_snocN (x := x.v.n) own4); have HB4 := Lib.hid (HBX.out.grown grow4 HBX.out.size (fun kk hk => (HOX.out.lt kk hk).1)); clear own4 grow4 _blk4)
      go_roundw
      case rel => exact ⟨k + 1, by omega, by go_num, by rw [HNX.out]; exact HO4.out, HB4.out⟩
      case measure => simp [intOf]; omega
    · have hkn : k = n := by omega
      subst hkn
      have ho2 := ho.out
      rw [List.take_of_length_le (by have := HLN.out; omega)] at ho2
      obtain ⟨O, hO⟩ : ∃ O, l.map (fun p => p.v.n) = O := ⟨_, rfl⟩
      rw [hO] at ho2
      have hol : O.length = k := by rw [← hO, List.length_map]; exact HLN.out
      rw [hol] at ho2
      obtain ⟨a1, c1, rfl, _⟩ := Rd.of_own ho2
      have HST := Lib.hid (sortI_any w.heap.size a1 k c1 O wr hol.symm ho2 hbw.out.size (by omega))
      have HNU : Hid (numsL l = Lib.compact (sortZ O)) := by show _ = _; unfold numsL; rw [hO]
      have HSL : Hid ((sortZ O).length = k) := by show _ = _; rw [(sortZ_perm O).length_eq]; exact hol
      have HBW := Lib.hid hbw.out
      clear ho ho2 hO hol hbw
      go_wp2_with fail
      refine HST.out.mono ?_
      rintro e w5 ⟨rfl, hown5, hb5⟩
      have HCP := Lib.hid (compI_any w.heap.size a1 k c1 (sortZ O) w5 HSL.out.symm hown5 (by have := HSL.out; omega))
      have HB5 := Lib.hid (HBW.out.trans hb5)
      clear hown5 hb5 HST
      go_wp2_with fail
      refine HCP.out.mono ?_
      rintro e w6 ⟨a6, c6, rfl, hr6, hb6⟩
      have HR6 := Lib.hid hr6
      have HB6 := Lib.hid (HB5.out.trans hb6)
      clear hr6 hb6 HCP
      go_wp2_with fail
      go_ret
      rw [HNU.out]
      exact ⟨a6, c6, rfl, HR6.out, HB6.out⟩

def bagShow (l : List Prt) : Val := ⟨1, (numsL l).length, ⟨#[]⟩⟩
set_option maxRecDepth 100000 in
set_option maxHeartbeats 1000000 in
theorem bshow_any (kd ck cn : Int) (cs : ByteArray) (va : Value) (l : List Prt) (w : World) (ha : PRd w va l) (hl : l.length ≤ 1000) :
    Calls Try.prog 23 #[.agg #[.int .i64 kd, .int .i64 ck, .int .i64 cn, .string cs, va]] w fun e w' => e = .returned (.agg #[.int .i64 1, .int .i64 (numsL l).length, .string ⟨#[]⟩]) ∧ Below w.heap.size w w' := by
  obtain ⟨w1, hw1⟩ : ∃ w1, (w.alloc (.cells #[.int .i64 kd, .int .i64 ck, .int .i64 cn, .string cs, va] 26)).alloc (.cells #[.int .i64 0, .int .i64 0, .string ⟨#[]⟩] 23) = w1 := ⟨_, rfl⟩
  have hb1 : Below w.heap.size w w1 := by rw [← hw1]; exact below_alloc_then (below_alloc _ _)
  have b0 : Bx w1 w.heap.size #[.int .i64 kd, .int .i64 ck, .int .i64 cn, .string cs, va] 26 := by rw [← hw1]; exact bx_later (below_alloc _ _) (bx_new rfl)
  have b1 : Bx w1 (w.heap.size + 1) #[.int .i64 0, .int .i64 0, .string ⟨#[]⟩] 23 := by rw [← hw1]; exact bx_new (by simp)
  have HNU := Lib.hid (numbers_any kd ck cn cs va l w1 (ha.later hb1) hl)
  have c0 := cell_of_box b0 0 rfl
  have c1 := cell_of_box b0 1 rfl
  have c2 := cell_of_box b0 2 rfl
  have c3 := cell_of_box b0 3 rfl
  have c4 := cell_of_box b0 4 rfl
  have HW := Lib.hid hw1
  have HB := Lib.hid hb1
  have B1 := Lib.hid b1
  obtain ⟨M, hM⟩ : ∃ M, numsL l = M := ⟨_, rfl⟩
  rw [hM] at HNU ⊢
  clear hw1 hb1 b0 b1 ha hM
  go_enter Try.func23, Try.ntmps23
  go_wp2_with fail
  rw [HW.out]
  go_wp2_with fail
  refine HNU.out.mono ?_
  rintro e w2 ⟨a, c, rfl, hr, hb2⟩
  have hml : M.length ≤ 9223372036854775807 := by
    obtain ⟨_, _, hv, h1, h2, _⟩ := hr
    cases hv
    unfold maxLen at h2
    omega
  have b1 := bx_later hb2 B1.out
  have z0 := cell_of_box b1 0 rfl
  have f0 := frozen_of_box b1 0
  have z1 := cell_of_box b1 1 rfl
  have f1 := frozen_of_box b1 1
  have z2 := cell_of_box b1 2 rfl
  have f2 := frozen_of_box b1 2
  have HB2 := Lib.hid (below_then HB.out hb2)
  clear hr hb2 b1 c0 c1 c2 c3 c4 HNU
  go_wp2_with fail
  refine bodyPost_ret (v := .agg #[.int .i64 1, .int .i64 M.length, .string ⟨#[]⟩]) (by simp [results, Try.results23, go_sem, z0, z1, z2]) rfl ⟨rfl, ?_⟩
  repeat' (first | with_reducible apply Below.setCell | exact HB2.out)
  all_goals (simp <;> omega)
end Go.Proofs.Ytnpciogpegmejaa
