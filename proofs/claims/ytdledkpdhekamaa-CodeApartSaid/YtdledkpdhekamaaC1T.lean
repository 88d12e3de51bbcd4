/-
  Layer 1 (code): the walks of what puts and gets texts and rows of numbers.
-/
import Derived.Test.YtdledkpdhekamaaC1G
namespace Go.Proofs.Ytdledkpdhekamaa
open Go.RowKit

theorem get_no {v : Value} {b : List UInt8} {n : Nat} {w : World} (h : Rd w v n (b.map bc)) (hn : n = b.length) (hg : get b = none) :
    Calls Try.prog 15 #[v] w fun e w' => e = .returned (.tuple #[.int .i64 0, .int .i64 0, .int .i64 3]) ∧ w = w' := by
  subst hn
  have := get_any v b w h
  unfold getV at this
  rw [hg] at this
  exact this
theorem get_yes {v : Value} {b : List UInt8} {n : Nat} {w : World} (h : Rd w v n (b.map bc)) (hn : n = b.length) {x : Int} {k : Nat} (hg : get b = some (x, k)) :
    Calls Try.prog 15 #[v] w fun e w' => e = .returned (.tuple #[.int .i64 x, .int .i64 k, .int .i64 0]) ∧ w = w' := by
  subst hn
  have := get_any v b w h
  unfold getV at this
  rw [hg] at this
  exact this
theorem refGet_no {v : Value} {b : List UInt8} {n : Nat} {w : World} (h : Rd w v n (b.map bc)) (hn : n = b.length) (hg : get b = none) :
    Calls Try.prog 16 #[v] w fun e w' => e = .returned (.tuple #[.int .i64 0, .int .i64 0, .int .i64 3]) ∧ Below w.heap.size w w' := by
  subst hn
  have := refGet_any v b w h
  unfold getV at this
  rw [hg] at this
  exact this
theorem refGet_yes {v : Value} {b : List UInt8} {n : Nat} {w : World} (h : Rd w v n (b.map bc)) (hn : n = b.length) {x : Int} {k : Nat} (hg : get b = some (x, k)) :
    Calls Try.prog 16 #[v] w fun e w' => e = .returned (.tuple #[.int .i64 x, .int .i64 k, .int .i64 0]) ∧ Below w.heap.size w w' := by
  subst hn
  have := refGet_any v b w h
  unfold getV at this
  rw [hg] at this
  exact this

theorem own_bytes {w : World} {B E : Nat} {v : Value} {n : Nat} {xs : List Value} {l : List UInt8} (h : w.ownsRow B E 1 v n xs) (hn : n = l.length) (hx : xs = l.map bc) : w.ownsRow B E 1 v l.length (l.map bc) := by
  subst hn hx
  exact h

set_option maxRecDepth 100000 in
set_option maxHeartbeats 400000 in
theorem text_any (s : ByteArray) (w : World) (hs : s.size ≤ 1000000000) : Calls Try.prog 22 #[.string s] w (OwnB w (text s.data.toList)) := by
  have hln : s.data.toList.length = s.size := Array.length_toList
  have HL := Lib.hid hln
  clear hln
  have hpl := put_len (s.size : Int)
  go_enter Try.func22, Try.ntmps22
  go_wp2_with fail
  refine (put_any _ _ (by omega) (by omega)).mono ?_
  rintro e w1 ⟨v1, rfl, hown1, hb1⟩
  go_wp2_with (at_builtin; refine wpList_app elB ⟨_, Try.underlying9, fun k h => nomatch h⟩ rfl _ _ rfl rfl rfl hown1 (Src.of_string s) (oneCell_bytes _) (by unfold maxLen; omega) (by omega) hb1.size ?_; intro v2 w2 hown2 hgrow2 hblk2)
  go_ret
  exact ⟨_, rfl, own_bytes hown2 (by simp [text, HL.out]) (by simp [text, HL.out]), below_own hb1 hown1 (Nat.le_refl _) hgrow2⟩

set_option maxRecDepth 100000 in
set_option maxHeartbeats 400000 in
theorem refText_any (s : ByteArray) (w : World) (hs : s.size ≤ 1000000000) : Calls Try.prog 23 #[.string s] w (OwnB w (text s.data.toList)) := by
  have hln : s.data.toList.length = s.size := Array.length_toList
  have HL := Lib.hid hln
  clear hln
  have hpl := put_len (s.size : Int)
  go_enter Try.func23, Try.ntmps23
  go_wp2_with fail
  refine (refPut_any _ _ (by omega) (by omega)).mono ?_
  rintro e w1 ⟨v1, rfl, hown1, hb1⟩
  go_wp2_with (at_builtin; refine wpList_app elB ⟨_, Try.underlying9, fun k h => nomatch h⟩ rfl _ _ rfl rfl rfl hown1 (Src.of_string s) (oneCell_bytes _) (by unfold maxLen; omega) (by omega) hb1.size ?_; intro v2 w2 hown2 hgrow2 hblk2)
  go_ret
  exact ⟨_, rfl, own_bytes hown2 (by simp [text, HL.out]) (by simp [text, HL.out]), below_own hb1 hown1 (Nat.le_refl _) hgrow2⟩

def getTextV (b : List UInt8) : Value := match getText b with
  | none => .tuple #[.string ⟨#[]⟩, .int .i64 0, .int .i64 3]
  | some (s, k) => .tuple #[.string ⟨s.toArray⟩, .int .i64 k, .int .i64 0]

set_option maxRecDepth 100000 in
set_option maxHeartbeats 400000 in
theorem getText_any (v : Value) (b : List UInt8) (w : World) (h : Rd w v b.length (b.map bc)) :
    Calls Try.prog 17 #[v] w fun e w' => e = .returned (getTextV b) ∧ w = w' := by
  obtain ⟨ao, c, rfl, hna, hma, _, _⟩ := id h
  unfold maxLen at hma
  have HA := Lib.hid h
  clear h
  cases hg : get b with
  | none =>
    have Hg := Lib.hid (show getTextV b = .tuple #[.string ⟨#[]⟩, .int .i64 0, .int .i64 3] by unfold getTextV getText; rw [hg])
    have HG := Lib.hid hg
    clear hg
    go_enter Try.func17, Try.ntmps17
    go_wp2_with fail
    refine (get_no HA.out rfl HG.out).mono ?_
    rintro e w1 ⟨rfl, rfl⟩
    go_wp2_with fail
    go_ret3
    exact ⟨ret3 Hg.out rfl rfl rfl, rfl⟩
  | some p =>
    obtain ⟨n, k⟩ := p
    have hl := get_le hg
    have hr := get_some hg
    have hr0 := hr.1
    have hr1 := hr.2.1
    clear hr
    by_cases hbad : n < 0 ∨ (b.length : Int) - k < n
    · have Hg := Lib.hid (show getTextV b = .tuple #[.string ⟨#[]⟩, .int .i64 0, .int .i64 3] by unfold getTextV getText; simp only [hg]; rw [if_pos hbad])
      have HG := Lib.hid hg
      clear hg
      go_enter Try.func17, Try.ntmps17
      go_wp2_with fail
      refine (get_yes HA.out rfl HG.out).mono ?_
      rintro e w1 ⟨rfl, rfl⟩
      go_wp2_with fail
      all_goals go_ret3
      all_goals exact ⟨ret3 Hg.out rfl rfl rfl, rfl⟩
    · obtain ⟨N, rfl⟩ := Int.eq_ofNat_of_zero_le (show 0 ≤ n by omega)
      have hN : k + N ≤ b.length := by omega
      have Hg := Lib.hid (show getTextV b = .tuple #[.string ⟨((b.drop k).take N).toArray⟩, .int .i64 ((k : Int) + N), .int .i64 0] by unfold getTextV getText; simp only [hg]; rw [if_neg hbad]; rfl)
      have HG := Lib.hid hg
      obtain ⟨as1, cs1, hsl, hrs⟩ := run_part elB HA.out (by simp) k (k + N) (by omega) hN
      have e1 : k + N - k = N := by omega
      rw [e1, Nat.mul_one, Nat.mul_one, ← List.map_drop, ← List.map_take] at hrs
      rw [e1] at hsl
      have hst : ∀ W, (Instr.sliceAt 24 (.slice ao b.length c) (some (.int .i64 (k : Int))) (some (.int .i64 ((k : Int) + (N : Int)))) none).run Try.prog W = .ok (.slice as1 N cs1) W := hsl
      have e2 : ((b.drop k).take N).length = N := by simp; omega
      have hcv := run_string_of (P := Try.prog) (dst := 9) elB.ty Try.underlying5 Try.underlying9 (show Rd w (.slice as1 N cs1) ((b.drop k).take N).length _ by rw [e2]; exact hrs)
      clear hg hbad e1 e2 hrs hsl
      go_enter Try.func17, Try.ntmps17
      go_wp2_with fail
      refine (get_yes HA.out rfl HG.out).mono ?_
      rintro e w1 ⟨rfl, rfl⟩
      go_wp2_with fail
      all_goals go_ret3
      all_goals exact ⟨ret3 Hg.out rfl rfl rfl, rfl⟩
set_option maxRecDepth 100000 in
set_option maxHeartbeats 400000 in
theorem refGetText_any (v : Value) (b : List UInt8) (w : World) (h : Rd w v b.length (b.map bc)) :
    Calls Try.prog 18 #[v] w fun e w' => e = .returned (getTextV b) ∧ Below w.heap.size w w' := by
  obtain ⟨ao, c, rfl, hna, hma, _, _⟩ := id h
  unfold maxLen at hma
  have HA := Lib.hid h
  clear h
  cases hg : get b with
  | none =>
    have Hg := Lib.hid (show getTextV b = .tuple #[.string ⟨#[]⟩, .int .i64 0, .int .i64 3] by unfold getTextV getText; rw [hg])
    have HG := Lib.hid hg
    clear hg
    go_enter Try.func18, Try.ntmps18
    go_wp2_with fail
    refine (refGet_no HA.out rfl HG.out).mono ?_
    rintro e w1 ⟨rfl, hb1⟩
    go_wp2_with fail
    go_ret3
    exact ⟨ret3 Hg.out rfl rfl rfl, hb1⟩
  | some p =>
    obtain ⟨n, k⟩ := p
    have hl := get_le hg
    have hr := get_some hg
    have hr0 := hr.1
    have hr1 := hr.2.1
    clear hr
    by_cases hbad : n < 0 ∨ (b.length : Int) - k < n
    · have Hg := Lib.hid (show getTextV b = .tuple #[.string ⟨#[]⟩, .int .i64 0, .int .i64 3] by unfold getTextV getText; simp only [hg]; rw [if_pos hbad])
      have HG := Lib.hid hg
      clear hg
      go_enter Try.func18, Try.ntmps18
      go_wp2_with fail
      refine (refGet_yes HA.out rfl HG.out).mono ?_
      rintro e w1 ⟨rfl, hb1⟩
      go_wp2_with fail
      all_goals go_ret3
      all_goals exact ⟨ret3 Hg.out rfl rfl rfl, hb1⟩
    · obtain ⟨N, rfl⟩ := Int.eq_ofNat_of_zero_le (show 0 ≤ n by omega)
      have hN : k + N ≤ b.length := by omega
      have Hg := Lib.hid (show getTextV b = .tuple #[.string ⟨((b.drop k).take N).toArray⟩, .int .i64 ((k : Int) + N), .int .i64 0] by unfold getTextV getText; simp only [hg]; rw [if_neg hbad]; rfl)
      have HG := Lib.hid hg
      obtain ⟨as1, cs1, hsl, hrs⟩ := run_part elB HA.out (by simp) k (k + N) (by omega) hN
      have e1 : k + N - k = N := by omega
      rw [e1, Nat.mul_one, Nat.mul_one, ← List.map_drop, ← List.map_take] at hrs
      rw [e1] at hsl
      have hst : ∀ W, (Instr.sliceAt 24 (.slice ao b.length c) (some (.int .i64 (k : Int))) (some (.int .i64 ((k : Int) + (N : Int)))) none).run Try.prog W = .ok (.slice as1 N cs1) W := hsl
      have e2 : ((b.drop k).take N).length = N := by simp; omega
      have hrd := Lib.hid (show Rd w (.slice as1 N cs1) ((b.drop k).take N).length (((b.drop k).take N).map bc) by rw [e2]; exact hrs)
      clear hg hbad e1 e2 hrs hsl
      go_enter Try.func18, Try.ntmps18
      go_wp2_with fail
      refine (refGet_yes HA.out rfl HG.out).mono ?_
      rintro e w1 ⟨rfl, hb1⟩
      have hcv := run_string_of (P := Try.prog) (dst := 9) elB.ty Try.underlying5 Try.underlying9 (hrd.out.later hb1)
      go_wp2_with fail
      all_goals go_ret3
      all_goals exact ⟨ret3 Hg.out rfl rfl rfl, hb1⟩

theorem zs_append (a b : List UInt8) : (a ++ b).map bc = a.map bc ++ b.map bc := List.map_append

theorem flat_len (l : List Int) : (l.flatMap put).length ≤ 10 * l.length := by
  induction l with
  | nil => simp
  | cons x l ih =>
    have := (put_len x).2
    simp only [List.flatMap_cons, List.length_append, List.length_cons]
    omega

theorem nums_snoc {l : List Int} {k : Nat} (hk : k < l.length) : put l.length ++ (l.take k).flatMap put ++ put l[k] = put l.length ++ (l.take (k + 1)).flatMap put := by
  rw [List.take_succ_eq_append_getElem hk, List.flatMap_append]
  simp

set_option maxRecDepth 100000 in
set_option maxHeartbeats 400000 in
theorem nums_any (v : Value) (l : List Int) (w : World) (h : Rd w v l.length (l.map (Value.int .i64))) (hs : l.length ≤ 1000000000) (hr : ∀ x ∈ l, -9223372036854775808 ≤ x ∧ x ≤ 9223372036854775807) :
    Calls Try.prog 24 #[v] w (OwnB w (nums l)) := by
  obtain ⟨ao, c, rfl, hna, hma, _, _⟩ := id h
  have HA := Lib.hid h
  have HR := Lib.hid hr
  clear h hr hma
  go_enter Try.func24, Try.ntmps24
  go_wp2_with fail
  refine (put_any _ _ (by omega) (by omega)).mono ?_
  rintro e w1 ⟨v1, rfl, hown1, hb1⟩
  have hpl := put_len (l.length : Int)
  go_wp2_with fail
  go_loopw [3, 11] (fun out i wr => ∃ (k : Nat) (xs : List UInt8), k ≤ l.length ∧ i = .int .i64 k ∧ Hid (xs = put l.length ++ (l.take k).flatMap put) ∧ wr.ownsRow w.heap.size 5 1 out xs.length (xs.map bc) ∧ Below w.heap.size w wr) (fun _ i _ => l.length - (intOf i).toNat)
  case atStart => exact ⟨0, _, Nat.zero_le _, rfl, by simp [Hid], hown1, hb1⟩
  case round =>
    obtain ⟨k, xs, hk, rfl, HX, hown, hb⟩ := hrel
    have hxl : xs.length ≤ 10 + 10 * l.length := by
      have h1 := flat_len (l.take k)
      have h2 := List.length_take_le k l
      rw [HX.out, List.length_append]
      omega
    by_cases hlt : k < l.length
    · obtain ⟨A1, hi1, hc1, hA1⟩ := rd_one elI (Value.int .i64) HA.out rfl k hlt
      have hc2 : wr.cell? A1 = some (.int .i64 l[k]) := (hb.cell hA1).trans hc1
      have hx := HR.out l[k] (List.getElem_mem hlt)
      have hp2 := put_len l[k]
      clear hc1
      go_wp2_with fail
      refine (put_any _ _ hx.1 hx.2).mono ?_
      rintro e w2 ⟨v2, rfl, hown2, hb2⟩
      have hown' := own_later hown hb2
      have hb' := hb.trans (hb2.mono hb.size)
      go_wp2_with (at_builtin; refine wpList_app elB ⟨_, elB.ty, fun k h => nomatch h⟩ rfl _ _ rfl rfl rfl hown' (Src.of_rd (Rd.of_own hown2) (by simp)) (oneCell_bytes _) (by unfold maxLen; omega) (by omega) hb'.size ?_; intro v3 w3 hown3 hgrow3 hblk3)
      go_roundw
      case rel => exact ⟨k + 1, xs ++ put l[k], by omega, by go_num, by unfold Hid; rw [HX.out]; exact nums_snoc hlt, own_bytes hown3 (by simp) (by simp), below_own hb' hown' (Nat.le_refl _) hgrow3⟩
      case measure => simp [intOf]; omega
    · have hkl : k = l.length := by omega
      have HK := Lib.hid hkl
      clear hkl
      go_wp2_with fail
      go_ret
      have e : xs = nums l := by rw [HX.out, HK.out, List.take_length]; rfl
      rw [← e]
      exact ⟨_, rfl, hown, hb⟩

set_option maxRecDepth 100000 in
set_option maxHeartbeats 400000 in
theorem refNums_any (v : Value) (l : List Int) (w : World) (h : Rd w v l.length (l.map (Value.int .i64))) (hs : l.length ≤ 1000000000) (hr : ∀ x ∈ l, -9223372036854775808 ≤ x ∧ x ≤ 9223372036854775807) :
    Calls Try.prog 25 #[v] w (OwnB w (nums l)) := by
  obtain ⟨ao, c, rfl, hna, hma, _, _⟩ := id h
  have HA := Lib.hid h
  have HR := Lib.hid hr
  clear h hr hma
  go_enter Try.func25, Try.ntmps25
  go_wp2_with fail
  refine (refPut_any _ _ (by omega) (by omega)).mono ?_
  rintro e w1 ⟨v1, rfl, hown1, hb1⟩
  have hpl := put_len (l.length : Int)
  go_wp2_with fail
  go_loopw [3, 4] (fun out i wr => ∃ (k : Nat) (xs : List UInt8), k ≤ l.length ∧ i = .int .i64 k ∧ Hid (xs = put l.length ++ (l.take k).flatMap put) ∧ wr.ownsRow w.heap.size 5 1 out xs.length (xs.map bc) ∧ Below w.heap.size w wr) (fun _ i _ => l.length - (intOf i).toNat)
  case atStart => exact ⟨0, _, Nat.zero_le _, rfl, by simp [Hid], hown1, hb1⟩
  case round =>
    obtain ⟨k, xs, hk, rfl, HX, hown, hb⟩ := hrel
    have hxl : xs.length ≤ 10 + 10 * l.length := by
      have h1 := flat_len (l.take k)
      have h2 := List.length_take_le k l
      rw [HX.out, List.length_append]
      omega
    by_cases hlt : k < l.length
    · obtain ⟨A1, hi1, hc1, hA1⟩ := rd_one elI (Value.int .i64) HA.out rfl k hlt
      have hc2 : wr.cell? A1 = some (.int .i64 l[k]) := (hb.cell hA1).trans hc1
      have hx := HR.out l[k] (List.getElem_mem hlt)
      have hp2 := put_len l[k]
      clear hc1
      go_wp2_with fail
      refine (refPut_any _ _ hx.1 hx.2).mono ?_
      rintro e w2 ⟨v2, rfl, hown2, hb2⟩
      have hown' := own_later hown hb2
      have hb' := hb.trans (hb2.mono hb.size)
      go_wp2_with (at_builtin; refine wpList_app elB ⟨_, elB.ty, fun k h => nomatch h⟩ rfl _ _ rfl rfl rfl hown' (Src.of_rd (Rd.of_own hown2) (by simp)) (oneCell_bytes _) (by unfold maxLen; omega) (by omega) hb'.size ?_; intro v3 w3 hown3 hgrow3 hblk3)
      go_roundw
      case rel => exact ⟨k + 1, xs ++ put l[k], by omega, by go_num, by unfold Hid; rw [HX.out]; exact nums_snoc hlt, own_bytes hown3 (by simp) (by simp), below_own hb' hown' (Nat.le_refl _) hgrow3⟩
      case measure => simp [intOf]; omega
    · have hkl : k = l.length := by omega
      have HK := Lib.hid hkl
      clear hkl
      go_wp2_with fail
      go_ret
      have e : xs = nums l := by rw [HX.out, HK.out, List.take_length]; rfl
      rw [← e]
      exact ⟨_, rfl, hown, hb⟩

set_option maxRecDepth 100000 in
set_option maxHeartbeats 400000 in
theorem ints_any (va vb : Value) (la lb : List Int) (w : World) (ha : Rd w va la.length (la.map (Value.int .i64))) (hb : Rd w vb lb.length (lb.map (Value.int .i64))) :
    Calls Try.prog 21 #[va, vb] w fun e w' => e = .returned (.bool (la == lb)) ∧ Below w.heap.size w w' := by
  obtain ⟨aa, ca, rfl, hna, hma, _, _⟩ := id ha
  obtain ⟨ab, cb, rfl, hnb, hmb, _, _⟩ := id hb
  unfold maxLen at hma hmb
  have HA := Lib.hid ha
  have HB := Lib.hid hb
  clear ha hb
  by_cases hl : la.length = lb.length
  · have hl' : ((la.length : Int) != (lb.length : Int)) = false := by simp [hl]
    have HL := Lib.hid hl
    have hle : la.length ≤ lb.length := by omega
    clear hl
    go_enter Try.func21, Try.ntmps21
    go_wp2
    go_loopw [5] (fun i wr => ∃ k : Nat, k ≤ la.length ∧ i = .int .i64 k ∧ Hid (la.take k = lb.take k) ∧ ∃ m, wr = w.drewN m) (fun i _ => la.length - (intOf i).toNat)
    case atStart => exact ⟨0, Nat.zero_le _, rfl, rfl, 0, rfl⟩
    case round =>
      obtain ⟨k, hk, rfl, htk, m, rfl⟩ := hrel
      by_cases hlt : k < la.length
      · obtain ⟨A1, hi1, hc1, _⟩ := rd_one elI (Value.int .i64) HA.out rfl k hlt
        obtain ⟨A2, hi2, hc2, _⟩ := rd_one elI (Value.int .i64) HB.out rfl k (by omega)
        go_wp2_with fail
        go_quiet (fail)
        go_wp2_with fail
        · have hd : (la[k] != lb[k]) = true := by assumption
          have hne : (la == lb) = false := by
            rw [beq_eq_false_iff_ne]; intro h; subst h; simp at hd
          go_ret
          exact ⟨ret_bool hne.symm, below_drewN (Q.below _ _) _⟩
        · have hd : (la[k] != lb[k]) = false := by assumption
          have he : la[k] = lb[k] := by simpa using hd
          go_roundw
          case rel => exact ⟨k + 1, by omega, by go_num, take_succ_eq hlt (by omega) htk.out he, _, rfl⟩
          case measure => simp [intOf]; omega
      · have hkl : k = la.length := by omega
        have he : la = lb := by
          have := htk.out
          rwa [hkl, List.take_length, HL.out, List.take_length] at this
        have hne : (la == lb) = true := by simp [he]
        clear he
        have HN := Lib.hid hne
        clear hne hkl
        go_wp2_with fail
        go_ret
        exact ⟨ret_bool HN.out.symm, Q.below _ _⟩
  · have hl' : ((la.length : Int) != (lb.length : Int)) = true := by simp; omega
    have hne : (la == lb) = false := by rw [beq_eq_false_iff_ne]; intro h; exact hl (by rw [h])
    have HN := Lib.hid hne
    clear hne
    go_enter Try.func21, Try.ntmps21
    go_wp2
    go_ret
    exact ⟨ret_bool HN.out.symm, Below.refl _ _⟩
end Go.Proofs.Ytdledkpdhekamaa
