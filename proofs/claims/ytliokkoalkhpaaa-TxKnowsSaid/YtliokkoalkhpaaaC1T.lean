/-
  Layer 1 (code): the walks of what puts and gets texts and rows of numbers.
-/
import Derived.Test.YtliokkoalkhpaaaC1G
namespace Go.Proofs.Ytliokkoalkhpaaa
open Go.RowKit

theorem get_no {v : Value} {b : List UInt8} {n : Nat} {w : World} (h : Rd w v n (b.map bc)) (hn : n = b.length) (hg : get b = none) :
    Calls Try.prog 85 #[v] w fun e w' => e = .returned (.tuple #[.int .i64 0, .int .i64 0, .int .i64 3]) ∧ w = w' := by
  subst hn
  have := get_any v b w h
  unfold getV at this
  rw [hg] at this
  exact this
theorem get_yes {v : Value} {b : List UInt8} {n : Nat} {w : World} (h : Rd w v n (b.map bc)) (hn : n = b.length) {x : Int} {k : Nat} (hg : get b = some (x, k)) :
    Calls Try.prog 85 #[v] w fun e w' => e = .returned (.tuple #[.int .i64 x, .int .i64 k, .int .i64 0]) ∧ w = w' := by
  subst hn
  have := get_any v b w h
  unfold getV at this
  rw [hg] at this
  exact this
theorem refGet_no {v : Value} {b : List UInt8} {n : Nat} {w : World} (h : Rd w v n (b.map bc)) (hn : n = b.length) (hg : get b = none) :
    Calls Try.prog 70 #[v] w fun e w' => e = .returned (.tuple #[.int .i64 0, .int .i64 0, .int .i64 3]) ∧ Below w.heap.size w w' := by
  subst hn
  have := refGet_any v b w h
  unfold getV at this
  rw [hg] at this
  exact this
theorem refGet_yes {v : Value} {b : List UInt8} {n : Nat} {w : World} (h : Rd w v n (b.map bc)) (hn : n = b.length) {x : Int} {k : Nat} (hg : get b = some (x, k)) :
    Calls Try.prog 70 #[v] w fun e w' => e = .returned (.tuple #[.int .i64 x, .int .i64 k, .int .i64 0]) ∧ Below w.heap.size w w' := by
  subst hn
  have := refGet_any v b w h
  unfold getV at this
  rw [hg] at this
  exact this

theorem own_bytes {w : World} {B E : Nat} {v : Value} {n : Nat} {xs : List Value} {l : List UInt8} (h : w.ownsRow B E 1 v n xs) (hn : n = l.length) (hx : xs = l.map bc) : w.ownsRow B E 1 v l.length (l.map bc) := by
  subst hn hx
  exact h

set_option maxRecDepth 100000 in
set_option maxHeartbeats 400000 in
theorem text_any (s : ByteArray) (w : World) (hs : s.size ≤ 1000000000) : Calls Try.prog 82 #[.string s] w (OwnB w (text s.data.toList)) := by
  have hln : s.data.toList.length = s.size := Array.length_toList
  have HL := Lib.hid hln
  clear hln
  have hpl := put_len (s.size : Int)
  go_enter Try.func82, Try.ntmps82
  go_wp2_with fail
  refine (put_any _ _ (by omega) (by omega)).mono ?_
  rintro e w1 ⟨v1, rfl, hown1, hb1⟩
  go_wp2_with (at_builtin; refine wpList_app elB ⟨_, Try.underlying9, fun k h => nomatch h⟩ rfl _ _ rfl rfl rfl hown1 (Src.of_string s) (oneCell_bytes _) (by unfold maxLen; omega) (by omega) hb1.size ?_; intro v2 w2 hown2 hgrow2 hblk2)
  go_ret
  exact ⟨_, rfl, own_bytes hown2 (by simp [text, HL.out]) (by simp [text, HL.out]), below_own hb1 hown1 (Nat.le_refl _) hgrow2⟩

set_option maxRecDepth 100000 in
set_option maxHeartbeats 400000 in
theorem refText_any (s : ByteArray) (w : World) (hs : s.size ≤ 1000000000) : Calls Try.prog 83 #[.string s] w (OwnB w (text s.data.toList)) := by
  have hln : s.data.toList.length = s.size := Array.length_toList
  have HL := Lib.hid hln
  clear hln
  have hpl := put_len (s.size : Int)
  go_enter Try.func83, Try.ntmps83
  go_wp2_with fail
  refine (refPut_any _ _ (by omega) (by omega)).mono ?_
  rintro e w1 ⟨v1, rfl, hown1, hb1⟩
  go_wp2_with (at_builtin; refine wpList_app elB ⟨_, Try.underlying9, fun k h => nomatch h⟩ rfl _ _ rfl rfl rfl hown1 (Src.of_string s) (oneCell_bytes _) (by unfold maxLen; omega) (by omega) hb1.size ?_; intro v2 w2 hown2 hgrow2 hblk2)
  go_ret
  exact ⟨_, rfl, own_bytes hown2 (by simp [text, HL.out]) (by simp [text, HL.out]), below_own hb1 hown1 (Nat.le_refl _) hgrow2⟩

def getTextV (b : List UInt8) : Value := match getText b with
  | none => .tuple #[.string ⟨#[]⟩, .int .i64 0, .int .i64 3]
  | some (s, k) => .tuple #[.string ⟨s.toArray⟩, .int .i64 k, .int .i64 0]

set_option maxRecDepth 100000 in
set_option maxHeartbeats 400000 in
theorem getText_any (v : Value) (b : List UInt8) (w : World) (h : Rd w v b.length (b.map bc)) :
    Calls Try.prog 86 #[v] w fun e w' => e = .returned (getTextV b) ∧ w = w' := by
  obtain ⟨ao, c, rfl, hna, hma, _, _⟩ := id h
  unfold maxLen at hma
  have HA := Lib.hid h
  clear h
  cases hg : get b with
  | none =>
    have Hg := Lib.hid (show getTextV b = .tuple #[.string ⟨#[]⟩, .int .i64 0, .int .i64 3] by unfold getTextV getText; rw [hg])
    have HG := Lib.hid hg
    clear hg
    go_enter Try.func86, Try.ntmps86
    go_wp2_with fail
    refine (get_no HA.out rfl HG.out).mono ?_
    rintro e w1 ⟨rfl, rfl⟩
    go_wp2_with fail
    go_ret3
    exact ⟨ret3 Hg.out rfl rfl rfl, rfl⟩
  | some p =>
    obtain ⟨n, k⟩ := p
    have hl := get_le hg
    have hr := get_some hg
    have hr0 := hr.1
    have hr1 := hr.2.1
    clear hr
    by_cases hbad : n < 0 ∨ (b.length : Int) - k < n
    · have Hg := Lib.hid (show getTextV b = .tuple #[.string ⟨#[]⟩, .int .i64 0, .int .i64 3] by unfold getTextV getText; simp only [hg]; rw [if_pos hbad])
      have HG := Lib.hid hg
      clear hg
      go_enter Try.func86, Try.ntmps86
      go_wp2_with fail
      refine (get_yes HA.out rfl HG.out).mono ?_
      rintro e w1 ⟨rfl, rfl⟩
      go_wp2_with fail
      all_goals go_ret3
      all_goals exact ⟨ret3 Hg.out rfl rfl rfl, rfl⟩
    · obtain ⟨N, rfl⟩ := Int.eq_ofNat_of_zero_le (show 0 ≤ n by omega)
      have hN : k + N ≤ b.length := by omega
      have Hg := Lib.hid (show getTextV b = .tuple #[.string ⟨((b.drop k).take N).toArray⟩, .int .i64 ((k : Int) + N), .int .i64 0] by unfold getTextV getText; simp only [hg]; rw [if_neg hbad]; rfl)
      have HG := Lib.hid hg
      obtain ⟨as1, cs1, hsl, hrs⟩ := run_part elB HA.out (by simp) k (k + N) (by omega) hN
      have e1 : k + N - k = N := by omega
      rw [e1, Nat.mul_one, Nat.mul_one, ← List.map_drop, ← List.map_take] at hrs
      rw [e1] at hsl
      have hst : ∀ W, (Instr.sliceAt 38 (.slice ao b.length c) (some (.int .i64 (k : Int))) (some (.int .i64 ((k : Int) + (N : Int)))) none).run Try.prog W = .ok (.slice as1 N cs1) W := hsl
      have e2 : ((b.drop k).take N).length = N := by simp; omega
      have hcv := run_string_of (P := Try.prog) (dst := 9) elB.ty Try.underlying5 Try.underlying9 (show Rd w (.slice as1 N cs1) ((b.drop k).take N).length _ by rw [e2]; exact hrs)
      clear hg hbad e1 e2 hrs hsl
      go_enter Try.func86, Try.ntmps86
      go_wp2_with fail
      refine (get_yes HA.out rfl HG.out).mono ?_
      rintro e w1 ⟨rfl, rfl⟩
      go_wp2_with fail
      all_goals go_ret3
      all_goals exact ⟨ret3 Hg.out rfl rfl rfl, rfl⟩
set_option maxRecDepth 100000 in
set_option maxHeartbeats 400000 in
theorem refGetText_any (v : Value) (b : List UInt8) (w : World) (h : Rd w v b.length (b.map bc)) :
    Calls Try.prog 88 #[v] w fun e w' => e = .returned (getTextV b) ∧ Below w.heap.size w w' := by
  obtain ⟨ao, c, rfl, hna, hma, _, _⟩ := id h
  unfold maxLen at hma
  have HA := Lib.hid h
  clear h
  cases hg : get b with
  | none =>
    have Hg := Lib.hid (show getTextV b = .tuple #[.string ⟨#[]⟩, .int .i64 0, .int .i64 3] by unfold getTextV getText; rw [hg])
    have HG := Lib.hid hg
    clear hg
    go_enter Try.func88, Try.ntmps88
    go_wp2_with fail
    refine (refGet_no HA.out rfl HG.out).mono ?_
    rintro e w1 ⟨rfl, hb1⟩
    go_wp2_with fail
    go_ret3
    exact ⟨ret3 Hg.out rfl rfl rfl, hb1⟩
  | some p =>
    obtain ⟨n, k⟩ := p
    have hl := get_le hg
    have hr := get_some hg
    have hr0 := hr.1
    have hr1 := hr.2.1
    clear hr
    by_cases hbad : n < 0 ∨ (b.length : Int) - k < n
    · have Hg := Lib.hid (show getTextV b = .tuple #[.string ⟨#[]⟩, .int .i64 0, .int .i64 3] by unfold getTextV getText; simp only [hg]; rw [if_pos hbad])
      have HG := Lib.hid hg
      clear hg
      go_enter Try.func88, Try.ntmps88
      go_wp2_with fail
      refine (refGet_yes HA.out rfl HG.out).mono ?_
      rintro e w1 ⟨rfl, hb1⟩
      go_wp2_with fail
      all_goals go_ret3
      all_goals exact ⟨ret3 Hg.out rfl rfl rfl, hb1⟩
    · obtain ⟨N, rfl⟩ := Int.eq_ofNat_of_zero_le (show 0 ≤ n by omega)
      have hN : k + N ≤ b.length := by omega
      have Hg := Lib.hid (show getTextV b = .tuple #[.string ⟨((b.drop k).take N).toArray⟩, .int .i64 ((k : Int) + N), .int .i64 0] by unfold getTextV getText; simp only [hg]; rw [if_neg hbad]; rfl)
      have HG := Lib.hid hg
      obtain ⟨as1, cs1, hsl, hrs⟩ := run_part elB HA.out (by simp) k (k + N) (by omega) hN
      have e1 : k + N - k = N := by omega
      rw [e1, Nat.mul_one, Nat.mul_one, ← List.map_drop, ← List.map_take] at hrs
      rw [e1] at hsl
      have hst : ∀ W, (Instr.sliceAt 38 (.slice ao b.length c) (some (.int .i64 (k : Int))) (some (.int .i64 ((k : Int) + (N : Int)))) none).run Try.prog W = .ok (.slice as1 N cs1) W := hsl
      have e2 : ((b.drop k).take N).length = N := by simp; omega
      have hrd := Lib.hid (show Rd w (.slice as1 N cs1) ((b.drop k).take N).length (((b.drop k).take N).map bc) by rw [e2]; exact hrs)
      clear hg hbad e1 e2 hrs hsl
      go_enter Try.func88, Try.ntmps88
      go_wp2_with fail
      refine (refGet_yes HA.out rfl HG.out).mono ?_
      rintro e w1 ⟨rfl, hb1⟩
      have hcv := run_string_of (P := Try.prog) (dst := 9) elB.ty Try.underlying5 Try.underlying9 (hrd.out.later hb1)
      go_wp2_with fail
      all_goals go_ret3
      all_goals exact ⟨ret3 Hg.out rfl rfl rfl, hb1⟩

theorem zs_append (a b : List UInt8) : (a ++ b).map bc = a.map bc ++ b.map bc := List.map_append

theorem getText_yes {v : Value} {b s : List UInt8} {n k : Nat} {w : World} (h : Rd w v n (b.map bc)) (hn : n = b.length) (hg : getText b = some (s, k)) :
    Calls Try.prog 86 #[v] w fun e w' => e = .returned (.tuple #[.string ⟨s.toArray⟩, .int .i64 k, .int .i64 0]) ∧ w = w' := by
  subst hn
  have := getText_any v b w h
  unfold getTextV at this
  rw [hg] at this
  exact this

theorem getText_no {v : Value} {b : List UInt8} {n : Nat} {w : World} (h : Rd w v n (b.map bc)) (hn : n = b.length) (hg : getText b = none) :
    Calls Try.prog 86 #[v] w fun e w' => e = .returned (.tuple #[.string ⟨#[]⟩, .int .i64 0, .int .i64 3]) ∧ w = w' := by
  subst hn
  have := getText_any v b w h
  unfold getTextV at this
  rw [hg] at this
  exact this

end Go.Proofs.Ytliokkoalkhpaaa
