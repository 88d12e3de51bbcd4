/-
  Layer 1 (code): the walks of what puts rows of numbers, and of what holds two against each other.
-/
import Derived.Test.YtliokkoalkhpaaaC1T
namespace Go.Proofs.Ytliokkoalkhpaaa
open Go.RowKit

theorem flat_len (l : List Int) : (l.flatMap put).length ≤ 10 * l.length := by
  induction l with
  | nil => simp
  | cons x l ih =>
    have := (put_len x).2
    simp only [List.flatMap_cons, List.length_append, List.length_cons]
    omega

theorem nums_snoc {l : List Int} {k : Nat} (hk : k < l.length) : put l.length ++ (l.take k).flatMap put ++ put l[k] = put l.length ++ (l.take (k + 1)).flatMap put := by
  rw [List.take_succ_eq_append_getElem hk, List.flatMap_append]
  simp

set_option maxRecDepth 100000 in
set_option maxHeartbeats 400000 in
theorem nums_any (v : Value) (l : List Int) (w : World) (h : Rd w v l.length (l.map (Value.int .i64))) (hs : l.length ≤ 1000000000) (hr : ∀ x ∈ l, -9223372036854775808 ≤ x ∧ x ≤ 9223372036854775807) :
    Calls Try.prog 31 #[v] w (OwnB w (nums l)) := by
  obtain ⟨ao, c, rfl, hna, hma, _, _⟩ := id h
  have HA := Lib.hid h
  have HR := Lib.hid hr
  clear h hr hma
  go_enter Try.func31, Try.ntmps31
  go_wp2_with fail
  refine (put_any _ _ (by omega) (by omega)).mono ?_
  rintro e w1 ⟨v1, rfl, hown1, hb1⟩
  have hpl := put_len (l.length : Int)
  go_wp2_with fail
  go_loopw [3, 11] (fun out i wr => ∃ (k : Nat) (xs : List UInt8), k ≤ l.length ∧ i = .int .i64 k ∧ Hid (xs = put l.length ++ (l.take k).flatMap put) ∧ wr.ownsRow w.heap.size 5 1 out xs.length (xs.map bc) ∧ Below w.heap.size w wr) (fun _ i _ => l.length - (intOf i).toNat)
  case atStart => exact ⟨0, _, Nat.zero_le _, rfl, by simp [Hid], hown1, hb1⟩
  case round =>
    obtain ⟨k, xs, hk, rfl, HX, hown, hb⟩ := hrel
    have hxl : xs.length ≤ 10 + 10 * l.length := by
      have h1 := flat_len (l.take k)
      have h2 := List.length_take_le k l
      rw [HX.out, List.length_append]
      omega
    by_cases hlt : k < l.length
    · obtain ⟨A1, hi1, hc1, hA1⟩ := rd_one elI (Value.int .i64) HA.out rfl k hlt
      have hc2 : wr.cell? A1 = some (.int .i64 l[k]) := (hb.cell hA1).trans hc1
      have hx := HR.out l[k] (List.getElem_mem hlt)
      have hp2 := put_len l[k]
      clear hc1
      go_wp2_with fail
      refine (put_any _ _ hx.1 hx.2).mono ?_
      rintro e w2 ⟨v2, rfl, hown2, hb2⟩
      have hown' := own_later hown hb2
      have hb' := hb.trans (hb2.mono hb.size)
      go_wp2_with (at_builtin; refine wpList_app elB ⟨_, elB.ty, fun k h => nomatch h⟩ rfl _ _ rfl rfl rfl hown' (Src.of_rd (Rd.of_own hown2) (by simp)) (oneCell_bytes _) (by unfold maxLen; omega) (by omega) hb'.size ?_; intro v3 w3 hown3 hgrow3 hblk3)
      go_roundw
      case rel => exact ⟨k + 1, xs ++ put l[k], by omega, by go_num, by unfold Hid; rw [HX.out]; exact nums_snoc hlt, own_bytes hown3 (by simp) (by simp), below_own hb' hown' (Nat.le_refl _) hgrow3⟩
      case measure => simp [intOf]; omega
    · have hkl : k = l.length := by omega
      have HK := Lib.hid hkl
      clear hkl
      go_wp2_with fail
      go_ret
      have e : xs = nums l := by rw [HX.out, HK.out, List.take_length]; rfl
      rw [← e]
      exact ⟨_, rfl, hown, hb⟩

set_option maxRecDepth 100000 in
set_option maxHeartbeats 400000 in
theorem refNums_any (v : Value) (l : List Int) (w : World) (h : Rd w v l.length (l.map (Value.int .i64))) (hs : l.length ≤ 1000000000) (hr : ∀ x ∈ l, -9223372036854775808 ≤ x ∧ x ≤ 9223372036854775807) :
    Calls Try.prog 35 #[v] w (OwnB w (nums l)) := by
  obtain ⟨ao, c, rfl, hna, hma, _, _⟩ := id h
  have HA := Lib.hid h
  have HR := Lib.hid hr
  clear h hr hma
  go_enter Try.func35, Try.ntmps35
  go_wp2_with fail
  refine (refPut_any _ _ (by omega) (by omega)).mono ?_
  rintro e w1 ⟨v1, rfl, hown1, hb1⟩
  have hpl := put_len (l.length : Int)
  go_wp2_with fail
  go_loopw [3, 4] (fun out i wr => ∃ (k : Nat) (xs : List UInt8), k ≤ l.length ∧ i = .int .i64 k ∧ Hid (xs = put l.length ++ (l.take k).flatMap put) ∧ wr.ownsRow w.heap.size 5 1 out xs.length (xs.map bc) ∧ Below w.heap.size w wr) (fun _ i _ => l.length - (intOf i).toNat)
  case atStart => exact ⟨0, _, Nat.zero_le _, rfl, by simp [Hid], hown1, hb1⟩
  case round =>
    obtain ⟨k, xs, hk, rfl, HX, hown, hb⟩ := hrel
    have hxl : xs.length ≤ 10 + 10 * l.length := by
      have h1 := flat_len (l.take k)
      have h2 := List.length_take_le k l
      rw [HX.out, List.length_append]
      omega
    by_cases hlt : k < l.length
    · obtain ⟨A1, hi1, hc1, hA1⟩ := rd_one elI (Value.int .i64) HA.out rfl k hlt
      have hc2 : wr.cell? A1 = some (.int .i64 l[k]) := (hb.cell hA1).trans hc1
      have hx := HR.out l[k] (List.getElem_mem hlt)
      have hp2 := put_len l[k]
      clear hc1
      go_wp2_with fail
      refine (refPut_any _ _ hx.1 hx.2).mono ?_
      rintro e w2 ⟨v2, rfl, hown2, hb2⟩
      have hown' := own_later hown hb2
      have hb' := hb.trans (hb2.mono hb.size)
      go_wp2_with (at_builtin; refine wpList_app elB ⟨_, elB.ty, fun k h => nomatch h⟩ rfl _ _ rfl rfl rfl hown' (Src.of_rd (Rd.of_own hown2) (by simp)) (oneCell_bytes _) (by unfold maxLen; omega) (by omega) hb'.size ?_; intro v3 w3 hown3 hgrow3 hblk3)
      go_roundw
      case rel => exact ⟨k + 1, xs ++ put l[k], by omega, by go_num, by unfold Hid; rw [HX.out]; exact nums_snoc hlt, own_bytes hown3 (by simp) (by simp), below_own hb' hown' (Nat.le_refl _) hgrow3⟩
      case measure => simp [intOf]; omega
    · have hkl : k = l.length := by omega
      have HK := Lib.hid hkl
      clear hkl
      go_wp2_with fail
      go_ret
      have e : xs = nums l := by rw [HX.out, HK.out, List.take_length]; rfl
      rw [← e]
      exact ⟨_, rfl, hown, hb⟩

end Go.Proofs.Ytliokkoalkhpaaa
