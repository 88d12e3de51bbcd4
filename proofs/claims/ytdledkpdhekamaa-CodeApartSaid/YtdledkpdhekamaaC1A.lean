/-
  Layer 1 (code): the live question at the head of the statements.
-/
import Derived.Test.YtdledkpdhekamaaC1M
namespace Go.Proofs.Ytdledkpdhekamaa
open Go.RowKit

theorem same_true {va vb : Value} {na nb : Nat} {la lb : List UInt8} {w : World} (ha : Rd w va na (la.map bc)) (hna : na = la.length) (hb : Rd w vb nb (lb.map bc)) (hnb : nb = lb.length) (h : la = lb) :
    Calls Try.prog 12 #[va, vb] w fun e w' => e = .returned (.bool true) ∧ Below w.heap.size w w' := by
  have := same_at ha hna hb hnb
  rw [show (la == lb) = true by simp [h]] at this
  exact this
theorem ints_true {va vb : Value} {na nb : Nat} {la lb : List Int} {w : World} (ha : Rd w va na (la.map (Value.int .i64))) (hna : na = la.length) (hb : Rd w vb nb (lb.map (Value.int .i64))) (hnb : nb = lb.length) (h : la = lb) :
    Calls Try.prog 21 #[va, vb] w fun e w' => e = .returned (.bool true) ∧ Below w.heap.size w w' := by
  subst hna hnb
  have := ints_any va vb la lb w ha hb
  rw [show (la == lb) = true by simp [h]] at this
  exact this

theorem getText_yes {v : Value} {b s : List UInt8} {n k : Nat} {w : World} (h : Rd w v n (b.map bc)) (hn : n = b.length) (hg : getText b = some (s, k)) :
    Calls Try.prog 17 #[v] w fun e w' => e = .returned (.tuple #[.string ⟨s.toArray⟩, .int .i64 k, .int .i64 0]) ∧ w = w' := by
  subst hn
  have := getText_any v b w h
  unfold getTextV at this
  rw [hg] at this
  exact this

theorem getText_no {v : Value} {b : List UInt8} {n : Nat} {w : World} (h : Rd w v n (b.map bc)) (hn : n = b.length) (hg : getText b = none) :
    Calls Try.prog 17 #[v] w fun e w' => e = .returned (.tuple #[.string ⟨#[]⟩, .int .i64 0, .int .i64 3]) ∧ w = w' := by
  subst hn
  have := getText_any v b w h
  unfold getTextV at this
  rw [hg] at this
  exact this

theorem getNums_no' {v : Value} {b : List UInt8} {n : Nat} {w : World} (h : Rd w v n (b.map bc)) (hn : n = b.length) (hbl : b.length ≤ 1000000000) (hg : getNums b = none) :
    Calls Try.prog 19 #[v] w fun e w' => e = .returned (.tuple #[.slice none 0 0, .int .i64 0, .int .i64 3]) ∧ Below w.heap.size w w' := by
  subst hn
  refine (getNums_any v b w h hbl).mono ?_
  rintro e w' ⟨hb, h | ⟨u, l', k', h1, h2, h3⟩⟩
  · exact ⟨h.2, hb⟩
  · rw [hg] at h1; cases h1

theorem getNums_yes {v : Value} {b : List UInt8} {l : List Int} {n k : Nat} {w : World} (h : Rd w v n (b.map bc)) (hn : n = b.length) (hbl : b.length ≤ 1000000000) (hg : getNums b = some (l, k)) :
    Calls Try.prog 19 #[v] w fun e w' => ∃ u, e = .returned (.tuple #[u, .int .i64 k, .int .i64 0]) ∧ w'.ownsRow w.heap.size 3 1 u l.length (l.map (Value.int .i64)) ∧ Below w.heap.size w w' := by
  subst hn
  refine (getNums_any v b w h hbl).mono ?_
  rintro e w' ⟨hb, h | ⟨u, l', k', h1, h2, h3⟩⟩
  · rw [hg] at h; cases h.1
  · rw [hg] at h1
    simp only [Option.some.injEq, Prod.mk.injEq] at h1
    obtain ⟨rfl, rfl⟩ := h1
    exact ⟨u, h2, h3, hb⟩

def Alive (w : World) (e : Ending) (w' : World) : Prop := e = .returned (.bool true) ∧ Below w.heap.size w w'

set_option maxRecDepth 100000 in
set_option maxHeartbeats 1000000 in
theorem alive_any (w : World) : Calls Try.prog 11 #[] w (Alive w) := by
  have m3 : 3 ≤ maxLen := by decide
  go_enter Try.func11, Try.ntmps11
  go_wp2_with fail
  refine (put_any _ _ (by omega) (by omega)).mono ?_
  rintro e w1 ⟨v1, rfl, hown1, hb1⟩
  have h1 := Lib.hid (Rd.of_own hown1)
  go_wp2_with fail
  refine (put_any _ _ (by omega) (by omega)).mono ?_
  rintro e w2 ⟨v2, rfl, hown2, hb2⟩
  have h2 := Lib.hid (Rd.of_own hown2)
  have h1' := Lib.hid (h1.out.later hb2)
  have hb := below_then hb1 hb2
  clear hown1 hown2 h1 hb1 hb2
  go_wp2_with fail
  refine (get_yes (b := [128, 1, 9]) (rd_lit w2 _ _ 3 (by decide)) rfl (x := 64) (k := 2) (by decide)).mono ?_
  rintro e w3 ⟨rfl, hw3⟩
  have h1 := Lib.hid (h1'.out.later (below_alloc_eq hw3))
  have h2' := Lib.hid (h2.out.later (below_alloc_eq hw3))
  have hb' := below_then hb (below_alloc_eq hw3)
  clear hw3 h1' h2 hb
  go_wp2_with fail
  refine (get_no (b := [128, 0]) (rd_lit w3 _ _ 2 (by decide)) rfl (by decide)).mono ?_
  rintro e w4 ⟨rfl, hw4⟩
  have h1' := Lib.hid (h1.out.later (below_alloc_eq hw4))
  have h2 := Lib.hid (h2'.out.later (below_alloc_eq hw4))
  have hb := below_then hb' (below_alloc_eq hw4)
  clear hw4 h1 h2' hb'
  go_wp2_with fail
  refine (getText_yes (b := [4, 97, 98, 7]) (rd_lit w4 _ _ 4 (by decide)) rfl (s := [97, 98]) (k := 3) (by decide)).mono ?_
  rintro e w5 ⟨rfl, hw5⟩
  have h1 := Lib.hid (h1'.out.later (below_alloc_eq hw5))
  have h2' := Lib.hid (h2.out.later (below_alloc_eq hw5))
  have hb' := below_then hb (below_alloc_eq hw5)
  clear hw5 h1' h2 hb
  go_wp2_with fail
  refine (getNums_yes (b := [4, 2, 1]) (rd_lit w5 _ _ 3 (by decide)) rfl (by decide) (l := [1, -1]) (k := 3) (by decide)).mono ?_
  rintro e w6 ⟨v6, rfl, hown6, hb6⟩
  have h6 := Lib.hid (Rd.of_own hown6)
  have h1' := Lib.hid (h1.out.later (below_alloc_then hb6))
  have h2 := Lib.hid (h2'.out.later (below_alloc_then hb6))
  have hb := below_then hb' (below_alloc_then hb6)
  clear hown6 hb6 h1 h2' hb'
  go_wp2_with fail
  refine (same_true (h1'.out.later (below_alloc _ _)) rfl (lb := [127]) (rd_lit w6 _ _ 1 (by decide)) rfl (by decide)).mono ?_
  rintro e w7 ⟨rfl, hb7⟩
  have h2' := Lib.hid (h2.out.later (below_alloc_then hb7))
  have h6' := Lib.hid (h6.out.later (below_alloc_then hb7))
  have hb' := below_then hb (below_alloc_then hb7)
  clear hb h1' h2 h6 hb7
  go_wp2_with fail
  refine (same_true (h2'.out.later (below_alloc _ _)) rfl (lb := [128, 1]) (rd_lit w7 _ _ 2 (by decide)) rfl (by decide)).mono ?_
  rintro e w8 ⟨rfl, hb8⟩
  have h6 := Lib.hid (h6'.out.later (below_alloc_then hb8))
  have hb := below_then hb' (below_alloc_then hb8)
  clear hb' h2' h6' hb8
  go_wp2_with fail
  refine (ints_true (h6.out.later (below_alloc _ _)) rfl (lb := [1, -1]) (rd_lit w8 _ _ 2 (by decide)) rfl (by decide)).mono ?_
  rintro e w9 ⟨rfl, hb9⟩
  have hb' := below_then hb (below_alloc_then hb9)
  clear hb h6 hb9
  go_wp2_with fail
  refine (text_any _ _ (by decide)).mono ?_
  rintro e w10 ⟨v10, rfl, hown10, hb10⟩
  have h10 := Lib.hid (Rd.of_own hown10)
  have hb := below_then hb' hb10
  clear hb' hown10 hb10
  go_wp2_with fail
  refine (same_true (h10.out.later (below_alloc _ _)) rfl (lb := [4, 97, 98]) (rd_lit w10 _ _ 3 (by decide)) rfl (by decide)).mono ?_
  rintro e w11 ⟨rfl, hb11⟩
  have hb' := below_then hb (below_alloc_then hb11)
  clear hb h10 hb11
  go_wp2_with fail
  refine (nums_any _ [1, -1] _ (rd_lit w11 _ _ 2 (by decide)) (by decide) (by decide)).mono ?_
  rintro e w12 ⟨v12, rfl, hown12, hb12⟩
  have h12 := Lib.hid (Rd.of_own hown12)
  have hb := below_then hb' (below_alloc_then hb12)
  clear hb' hown12 hb12
  go_wp2_with fail
  refine (same_true (h12.out.later (below_alloc _ _)) rfl (lb := [4, 2, 1]) (rd_lit w12 _ _ 3 (by decide)) rfl (by decide)).mono ?_
  rintro e w13 ⟨rfl, hb13⟩
  have hb' := below_then hb (below_alloc_then hb13)
  clear hb h12 hb13
  go_wp2_with fail
  go_ret
  exact ⟨rfl, hb'⟩
end Go.Proofs.Ytdledkpdhekamaa
