/-
  The stable sort of numbers in place: swapRange, rotate.
-/
import Derived.Test.YtnolbabpkhdpmaaGreatSW
namespace Go.Proofs.YtnolbabpkhdpmaaGreat
open Go.RowKit Go.Sort

abbrev en1 (x : Int) : List Value := [.int .i64 x]

set_option maxRecDepth 100000 in
set_option maxHeartbeats 400000 in
theorem swapRange_any {w0 : World} {blk off n : Nat} {l0 : List Int} (R : Rw en1 1 w0 blk off n l0) (hn : n ≤ 1000000) (W : World) (P A M B S : List Int) (hW : SB en1 1 w0 blk off (P ++ A ++ M ++ B ++ S) W)
    (hlen : (P ++ A ++ M ++ B ++ S).length = n) (hAB : A.length = B.length) (a b m cap : Nat) (ha : a = P.length) (hb : b = P.length + A.length + M.length) (hm : m = A.length) (g : Value) :
    Calls Tryz.prog 112 #[.slice (some ⟨blk, off, none⟩) n cap, .int .i64 a, .int .i64 b, .int .i64 m, g] W fun e W' => e = .returned (.tuple #[]) ∧ SB en1 1 w0 blk off (P ++ B ++ M ++ A ++ S) W' := by
  have hl := hlen
  simp only [List.length_append] at hl
  have HL := Lib.hid hlen
  have HA := Lib.hid ha
  have HBq := Lib.hid hb
  have HM := Lib.hid hm
  have HAB := Lib.hid hAB
  have HW := Lib.hid hW
  have hB1 : b + m ≤ n := by omega
  have hA1 : a + m ≤ b := by omega
  clear hl hlen ha hb hm hAB hW
  go_enter Tryz.func112, Tryz.ntmps112
  go_wp2
  go_loopw [10] (fun i wr => ∃ j : Nat, j ≤ m ∧ i = .int .i64 j ∧ Hid (SB en1 1 w0 blk off ((P ++ B.take j) ++ A.drop j ++ M ++ (A.take j ++ B.drop j) ++ S) wr)) (fun i _ => m - (intOf i).toNat)
  case atStart => exact ⟨0, Nat.zero_le _, rfl, Lib.hid (by simpa using HW.out)⟩
  case round =>
    obtain ⟨j, hj, rfl, hsb⟩ := hrel
    rename_i wr
    by_cases hlt : j < m
    · have e1 : A.drop j = A[j]'(by have := HM.out; omega) :: A.drop (j + 1) := List.drop_eq_getElem_cons _
      have e2 : B.drop j = B[j]'(by have := HM.out; have := HAB.out; omega) :: B.drop (j + 1) := List.drop_eq_getElem_cons _
      have e3 := List.take_succ_eq_append_getElem (l := A) (i := j) (by have := HM.out; omega)
      have e4 := List.take_succ_eq_append_getElem (l := B) (i := j) (by have := HM.out; have := HAB.out; omega)
      obtain ⟨x, hx⟩ : ∃ x, A[j]'(by have := HM.out; omega) = x := ⟨_, rfl⟩
      obtain ⟨y, hy⟩ : ∃ y, B[j]'(by have := HM.out; have := HAB.out; omega) = y := ⟨_, rfl⟩
      rw [hx] at e1 e3
      rw [hy] at e2 e4
      have hl1 : (P ++ B.take j).length = a + j := by rw [List.length_append, List.length_take]; have := HA.out; have := HM.out; have := HAB.out; omega
      have hl2 : (A.drop (j + 1) ++ M ++ A.take j).length + (a + j) + 1 = b + j := by simp only [List.length_append, List.length_take, List.length_drop]; have := HA.out; have := HBq.out; have := HM.out; omega
      have hs0 : (P ++ B.take j) ++ A.drop j ++ M ++ (A.take j ++ B.drop j) ++ S = (P ++ B.take j) ++ x :: ((A.drop (j + 1) ++ M ++ A.take j) ++ y :: (B.drop (j + 1) ++ S)) := by rw [e1, e2]; simp
      have hs1 : (P ++ B.take (j + 1)) ++ A.drop (j + 1) ++ M ++ (A.take (j + 1) ++ B.drop (j + 1)) ++ S = (P ++ B.take j) ++ y :: ((A.drop (j + 1) ++ M ++ A.take j) ++ x :: (B.drop (j + 1) ++ S)) := by rw [e3, e4]; simp
      have hsb' : SB en1 1 w0 blk off ((P ++ B.take j) ++ x :: ((A.drop (j + 1) ++ M ++ A.take j) ++ y :: (B.drop (j + 1) ++ S))) wr := by rw [← hs0]; exact hsb.out
      have hln : ((P ++ B.take j) ++ x :: ((A.drop (j + 1) ++ M ++ A.take j) ++ y :: (B.drop (j + 1) ++ S))).length = n := by
        rw [← hs0, ← HL.out]; simp only [List.length_append, List.length_take, List.length_drop]; have := HM.out; have := HAB.out; omega
      have hsw := hsb'.swapped1 R (i := a + j) (j := b + j) hl1.symm (by omega) rfl rfl
      obtain ⟨c1, f1⟩ := hsb'.cell1 R hln hl1.symm rfl
      obtain ⟨c2, f2⟩ := SB.cell1 (P := (P ++ B.take j) ++ x :: (A.drop (j + 1) ++ M ++ A.take j)) (S := B.drop (j + 1) ++ S) (x := y) (i := b + j) (by simpa using hsb') R (by simpa using hln) (by rw [List.length_append, List.length_cons]; omega) rfl
      have HSW := Lib.hid hsw
      have HS1 := Lib.hid hs1
      clear e1 e2 e3 e4 hl1 hl2 hs0 hs1 hsb' hln hsw hx hy hsb
      go_wp2
      go_big_region
      go_wp2
      go_roundw
      case rel => exact ⟨j + 1, by omega, by go_num, Lib.hid (by have := HSW.out.drew; rw [HS1.out]; exact this)⟩
      case measure => simp [intOf]; omega
    · have hjm : j = m := by omega
      have he : (P ++ B.take j) ++ A.drop j ++ M ++ (A.take j ++ B.drop j) ++ S = P ++ B ++ M ++ A ++ S := by
        have := HM.out; have := HAB.out
        rw [List.take_of_length_le (by omega : B.length ≤ j), List.take_of_length_le (by omega : A.length ≤ j), List.drop_of_length_le (by omega : A.length ≤ j), List.drop_of_length_le (by omega : B.length ≤ j)]; simp
      rw [he] at hsb
      clear he hjm
      go_wp2
      go_end0
      exact ⟨rfl, hsb.out⟩

set_option maxRecDepth 100000 in
set_option maxHeartbeats 400000 in
theorem rotate_any {w0 : World} {blk off n : Nat} {l0 : List Int} (R : Rw en1 1 w0 blk off n l0) (hn : n ≤ 1000000) (W : World) (P A B S : List Int) (hW : SB en1 1 w0 blk off (P ++ A ++ B ++ S) W)
    (hlen : (P ++ A ++ B ++ S).length = n) (a m b cap : Nat) (ha : a = P.length) (hm : m = P.length + A.length) (hb : b = P.length + A.length + B.length) (hA : 0 < A.length) (hB : 0 < B.length) (g : Value) :
    Calls Tryz.prog 110 #[.slice (some ⟨blk, off, none⟩) n cap, .int .i64 a, .int .i64 m, .int .i64 b, g] W fun e W' => e = .returned (.tuple #[]) ∧ SB en1 1 w0 blk off (P ++ B ++ A ++ S) W' := by
  have hl := hlen
  simp only [List.length_append] at hl
  have HL := Lib.hid hlen
  have HT := Lib.hid (⟨P, A, B, S, rfl, hlen, hW, hm, hA, hB, rfl, by omega, by omega⟩ : ∃ P' A' B' S', P' ++ B' ++ A' ++ S' = P ++ B ++ A ++ S ∧ (P' ++ A' ++ B' ++ S').length = n ∧ SB en1 1 w0 blk off (P' ++ A' ++ B' ++ S') W ∧ m = P'.length + A'.length ∧ 0 < A'.length ∧ 0 < B'.length ∧ A'.length = A'.length ∧ A'.length = m - a ∧ B'.length = b - m)
  have h1 : a ≤ m := by omega
  have h2 : m ≤ b := by omega
  have h3 : b ≤ n := by omega
  have h4 : a < m := by omega
  have h5 : m < b := by omega
  clear hl hlen ha hb hm hA hB hW
  go_enter Tryz.func110, Tryz.ntmps110
  go_wp2
  go_loopw [10, 11] (fun vi vj wr => ∃ i j : Nat, vi = .int .i64 i ∧ vj = .int .i64 j ∧ i ≤ m ∧ m + j ≤ n ∧ 0 < i ∧ 0 < j ∧ Hid (∃ P' A' B' S', P' ++ B' ++ A' ++ S' = P ++ B ++ A ++ S ∧ (P' ++ A' ++ B' ++ S').length = n ∧ SB en1 1 w0 blk off (P' ++ A' ++ B' ++ S') wr ∧ m = P'.length + A'.length ∧ i = A'.length ∧ j = B'.length)) (fun vi vj _ => (intOf vi).toNat + (intOf vj).toNat)
  case atStart =>
    refine ⟨m - a, b - m, by go_num, by go_num, by omega, by omega, by omega, by omega, ?_⟩
    obtain ⟨P', A', B', S', e1, e2, e3, e4, e5, e6, e7, e8, e9⟩ := HT.out
    exact ⟨P', A', B', S', e1, e2, e3, e4, e8.symm, e9.symm⟩
  case round =>
    obtain ⟨i, j, rfl, rfl, him, hjn, hi0, hj0, HI⟩ := hrel
    rename_i wr
    obtain ⟨P', A', B', S', e1, e2, e3, e4, e5, e6⟩ := HI.out
    have E1 := Lib.hid e1
    have E2 := Lib.hid e2
    have E3 := Lib.hid e3
    have E4 := Lib.hid e4
    have E5 := Lib.hid e5
    have E6 := Lib.hid e6
    have el := e2
    simp only [List.length_append] at el
    rcases Nat.lt_trichotomy i j with hlt | heq | hgt
    · -- i < j: B = B1 ++ B2, |B2| = i
      have hcat : B' = B'.take (j - i) ++ B'.drop (j - i) := (List.take_append_drop _ _).symm
      obtain ⟨B1, hB1⟩ : ∃ x, B'.take (j - i) = x := ⟨_, rfl⟩
      obtain ⟨B2, hB2⟩ : ∃ x, B'.drop (j - i) = x := ⟨_, rfl⟩
      have l1 : B1.length = j - i := by rw [← hB1, List.length_take]; omega
      have l2 : B2.length = i := by rw [← hB2, List.length_drop]; omega
      rw [hB1, hB2] at hcat
      subst hcat
      have hc := swapRange_any R hn wr P' A' B1 B2 S' (by have := E3.out; simpa using this) (by have := E2.out; simpa using this) (by omega) (m - i) (m + j - i) i cap (by omega) (by omega) (by omega) g
      rw [show ((m - i : Nat) : Int) = (m : Int) - (i : Int) from by omega, show ((m + j - i : Nat) : Int) = (m : Int) + (j : Int) - (i : Int) from by omega] at hc
      have hne : ((i : Int) == (j : Int)) = false := by simp; omega
      have hrel : ∀ w', SB en1 1 w0 blk off (P' ++ B2 ++ B1 ++ A' ++ S') w' → ∃ P' A' B' S', P' ++ B' ++ A' ++ S' = P ++ B ++ A ++ S ∧ (P' ++ A' ++ B' ++ S').length = n ∧ SB en1 1 w0 blk off (P' ++ A' ++ B' ++ S') w' ∧ m = P'.length + A'.length ∧ i = A'.length ∧ j - i = B'.length := by
        intro w' h'
        refine ⟨P', B2, B1, A' ++ S', ?_, ?_, by simpa using h', by rw [l2]; omega, l2.symm, l1.symm⟩
        · rw [← E1.out]; simp
        · rw [← E2.out]; simp only [List.length_append]; omega
      have HC := Lib.hid hc
      have HR := Lib.hid hrel
      clear el e1 e2 e3 e4 e5 e6 hB1 hB2 l1 l2 hc hrel
      go_wp2_with (go_at_call 112; refine HC.out.mono ?_; rintro e w' ⟨rfl, hb'⟩)
      go_roundw
      case rel => exact ⟨i, j - i, rfl, by go_num, by omega, by omega, by omega, by omega, HR.out _ hb'⟩
      case measure => simp [intOf]; omega
    · -- i = j: the last exchange
      subst heq
      have hc := swapRange_any R hn wr P' A' [] B' S' (by have := E3.out; simpa using this) (by have := E2.out; simpa using this) (by omega) (m - i) m i cap (by omega) (by simp; omega) (by omega) g
      rw [show ((m - i : Nat) : Int) = (m : Int) - (i : Int) from by omega] at hc
      have hrel : ∀ w', SB en1 1 w0 blk off (P' ++ B' ++ [] ++ A' ++ S') w' → SB en1 1 w0 blk off (P ++ B ++ A ++ S) w' := by
        intro w' h'
        rw [← E1.out]; simpa using h'
      have HC := Lib.hid hc
      have HR := Lib.hid hrel
      clear el e1 e2 e3 e4 e5 e6 hc hrel
      go_wp2_with (go_at_call 112; refine HC.out.mono ?_; rintro e w' ⟨rfl, hb'⟩)
      go_end0
      exact ⟨rfl, HR.out _ hb'⟩
    · -- j < i: A = A1 ++ A2, |A1| = j
      have hcat : A' = A'.take j ++ A'.drop j := (List.take_append_drop _ _).symm
      obtain ⟨A1, hA1⟩ : ∃ x, A'.take j = x := ⟨_, rfl⟩
      obtain ⟨A2, hA2⟩ : ∃ x, A'.drop j = x := ⟨_, rfl⟩
      have l1 : A1.length = j := by rw [← hA1, List.length_take]; omega
      have l2 : A2.length = i - j := by rw [← hA2, List.length_drop]; omega
      rw [hA1, hA2] at hcat
      subst hcat
      have hc := swapRange_any R hn wr P' A1 A2 B' S' (by have := E3.out; simpa using this) (by have := E2.out; simpa using this) (by omega) (m - i) m j cap (by have := E4.out; have := E5.out; simp only [List.length_append] at *; omega) (by have := E4.out; have := E5.out; simp only [List.length_append] at *; omega) (by omega) g
      rw [show ((m - i : Nat) : Int) = (m : Int) - (i : Int) from by omega] at hc
      have hne : ((i : Int) == (j : Int)) = false := by simp; omega
      have hrel : ∀ w', SB en1 1 w0 blk off (P' ++ B' ++ A2 ++ A1 ++ S') w' → ∃ P' A' B' S', P' ++ B' ++ A' ++ S' = P ++ B ++ A ++ S ∧ (P' ++ A' ++ B' ++ S').length = n ∧ SB en1 1 w0 blk off (P' ++ A' ++ B' ++ S') w' ∧ m = P'.length + A'.length ∧ i - j = A'.length ∧ j = B'.length := by
        intro w' h'
        refine ⟨P' ++ B', A2, A1, S', ?_, ?_, by simpa using h', ?_, l2.symm, l1.symm⟩
        · rw [← E1.out]; simp
        · rw [← E2.out]; simp only [List.length_append]; omega
        · have := E4.out; have := E6.out; simp only [List.length_append] at *; omega
      have HC := Lib.hid hc
      have HR := Lib.hid hrel
      clear el e1 e2 e3 e4 e5 e6 hA1 hA2 l1 l2 hc hrel
      go_wp2_with (go_at_call 112; refine HC.out.mono ?_; rintro e w' ⟨rfl, hb'⟩)
      go_roundw
      case rel => exact ⟨i - j, j, by go_num, rfl, by omega, by omega, by omega, by omega, HR.out _ hb'⟩
      case measure => simp [intOf]; omega
end Go.Proofs.YtnolbabpkhdpmaaGreat
