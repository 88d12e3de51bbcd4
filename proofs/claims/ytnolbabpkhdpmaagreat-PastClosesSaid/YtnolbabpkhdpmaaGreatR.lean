/-
  Layer 3 (row): rows of values: their order.
-/
import Derived.Test.YtnolbabpkhdpmaaGreatV
namespace Go.Proofs.YtnolbabpkhdpmaaGreat
open Go.RowKit Go.Sort

/-- A row's cells. -/
def rowCs (l : List Val) : List Value := l.flatMap Val.cs

theorem rowCs_length (l : List Val) : (rowCs l).length = l.length * 3 := by
  induction l with
  | nil => rfl
  | cons a l ih =>
    have : rowCs (a :: l) = a.cs ++ rowCs l := rfl
    rw [this, List.length_append, ih, List.length_cons]
    simp [Val.cs]; omega

theorem rowCs_at (l : List Val) (k : Nat) (hk : k < l.length) : (rowCs l)[k * 3]? = some (.int .i64 l[k].k) ∧ (rowCs l)[k * 3 + 1]? = some (.int .i64 l[k].n) ∧ (rowCs l)[k * 3 + 2]? = some (.string l[k].s) := by
  induction l generalizing k with
  | nil => cases hk
  | cons a l ih =>
    have he : rowCs (a :: l) = a.cs ++ rowCs l := rfl
    have hc : a.cs.length = 3 := rfl
    cases k with
    | zero => exact ⟨rfl, rfl, rfl⟩
    | succ k =>
      have := ih k (by simpa using hk)
      rw [he]
      refine ⟨?_, ?_, ?_⟩
      · rw [List.getElem?_append_right (by omega)]; rw [show (k + 1) * 3 - a.cs.length = k * 3 by omega]; exact this.1
      · rw [List.getElem?_append_right (by omega)]; rw [show (k + 1) * 3 + 1 - a.cs.length = k * 3 + 1 by omega]; exact this.2.1
      · rw [List.getElem?_append_right (by omega)]; rw [show (k + 1) * 3 + 2 - a.cs.length = k * 3 + 2 by omega]; exact this.2.2

theorem elR : El Tryz.prog 117 119 3 32 (.agg #[.int .i64 0, .int .i64 0, .string ⟨#[]⟩]) := El.mk' (by kernel_rfl) (by kernel_rfl) rfl (by decide)

/-- The place of a value in a row. -/
theorem rd_val {w : World} {ao : Option Addr} {n c : Nat} {l : List Val} (h : Rd w (.slice ao n c) n (rowCs l)) (hl : n = l.length) (k : Nat) (hk : k < l.length) :
    ∃ b o : Nat, (∀ W, (Instr.indexAt 117 (.slice ao n c) (.int .i64 (k : Int))).run Tryz.prog W = .ok (.pointer (some ⟨b, o, none⟩)) W) ∧ w.cell? ⟨b, o, none⟩ = some (.int .i64 l[k].k) ∧ w.cell? ⟨b, o + 1, none⟩ = some (.int .i64 l[k].n) ∧ w.cell? ⟨b, o + 2, none⟩ = some (.string l[k].s) ∧ b < w.heap.size := by
  subst hl
  obtain ⟨A, hA, _, hlt, hc⟩ := h.elem 3 k hk (rowCs_length l) (by decide)
  obtain ⟨r0, r1, r2⟩ := rowCs_at l k hk
  obtain ⟨u0, hu0, hc0⟩ := hc 0 (by decide)
  obtain ⟨u1, hu1, hc1⟩ := hc 1 (by decide)
  obtain ⟨u2, hu2, hc2⟩ := hc 2 (by decide)
  rw [Nat.add_zero, r0] at hu0
  rw [r1] at hu1
  rw [r2] at hu2
  cases hu0
  cases hu1
  cases hu2
  obtain ⟨b, o, s⟩ := A
  have hs : s = none := World.cell?_spot hc0
  subst hs
  exact ⟨b, o, fun W => run_indexAt_at elR hA hk W, hc0, hc1, hc2, hlt⟩

abbrev allR (l : List Val) : Bool := l.all rightV

theorem all_upto {α : Type} (p : α → Bool) {l : List α} {k : Nat} (hk : k < l.length) : (l.take (k + 1)).all p = ((l.take k).all p && p l[k]) := by
  rw [List.take_succ_eq_append_getElem hk, List.all_append]
  simp

theorem all_stop {α : Type} {p : α → Bool} {l : List α} {k : Nat} (hk : k < l.length) (h : p l[k] = false) : l.all p = false := by
  rw [Bool.eq_false_iff]; intro ha
  rw [List.all_eq_true] at ha
  have := ha l[k] (List.getElem_mem hk)
  rw [h] at this; cases this

theorem take_succ_eq' {α : Type} {a b : List α} {k : Nat} (ha : k < a.length) (hb : k < b.length) (h : a.take k = b.take k) (hk : a[k] = b[k]) : a.take (k + 1) = b.take (k + 1) := by
  rw [List.take_succ_eq_append_getElem ha, List.take_succ_eq_append_getElem hb, h, hk]

set_option maxRecDepth 100000 in
set_option maxHeartbeats 400000 in
theorem refAll_any (v : Value) (l : List Val) (w : World) (h : Rd w v l.length (rowCs l)) :
    Calls Tryz.prog 94 #[v] w fun e w' => e = .returned (.bool (allR l)) ∧ Below w.heap.size w w' := by
  obtain ⟨ao, c, rfl, hn, hm, _, _⟩ := id h
  unfold maxLen at hm
  have H := Lib.hid h
  clear h
  go_enter Tryz.func94, Tryz.ntmps94
  go_wp2
  go_loopw [3] (fun i wr => ∃ k : Nat, k ≤ l.length ∧ i = .int .i64 k ∧ Hid ((l.take k).all rightV = true) ∧ Below w.heap.size w wr) (fun i _ => l.length - (intOf i).toNat)
  case atStart => exact ⟨0, Nat.zero_le _, rfl, rfl, Below.refl _ _⟩
  case round =>
    obtain ⟨k, hk, rfl, htk, hb⟩ := hrel
    by_cases hlt : k < l.length
    · obtain ⟨b, o, hi, c0, c1, c2, _⟩ := rd_val (H.out.later hb) rfl k hlt
      cases hr : rightV l[k]
      · have HR := Lib.hid hr
        have HB := Lib.hid hb
        go_wp2_with (go_at_call 93; refine (refRightV_any _ _ _ _).mono ?_; rintro e w1 ⟨rfl, hb1⟩; rw [HR.out])
        go_ret
        exact ⟨ret_bool (all_stop hlt HR.out).symm, below_then HB.out hb1⟩
      · have HR := Lib.hid hr
        have HB := Lib.hid hb
        clear hr hb
        go_wp2_with (go_at_call 93; refine (refRightV_any _ _ _ _).mono ?_; rintro e w1 ⟨rfl, hb1⟩; rw [HR.out])
        go_roundw
        case rel => exact ⟨k + 1, by omega, by go_num, by show (l.take (k + 1)).all rightV = true; rw [all_upto _ hlt, htk.out, HR.out]; rfl, below_then HB.out hb1⟩
        case measure => simp [intOf]; omega
    · have hkl : k = l.length := by omega
      have he : allR l = true := by
        have := htk.out
        rwa [hkl, List.take_length] at this
      have HE := Lib.hid he
      clear htk he
      subst hkl
      go_wp2
      go_ret
      exact ⟨ret_bool HE.out.symm, hb⟩

/-- Which of two rows is ahead. -/
def lessR : List Val → List Val → Bool
  | [], m => decide (0 < m.length)
  | _ :: _, [] => false
  | a :: l, b :: m => if sameV a b then lessR l m else lessV a b

/-- How many values two rows share ahead. -/
def apartR : List Val → List Val → Nat
  | a :: l, b :: m => if sameV a b then apartR l m + 1 else 0
  | _, _ => 0

theorem sameV_self (a : Val) : sameV a a = true := sameV_iff.2 rfl

theorem lessR_apart (l m : List Val) : apartR l m ≤ l.length ∧ apartR l m ≤ m.length ∧ l.take (apartR l m) = m.take (apartR l m) ∧
    ∀ x y, l[apartR l m]? = some x → m[apartR l m]? = some y → sameV x y = false := by
  induction l generalizing m with
  | nil => exact ⟨Nat.zero_le _, Nat.zero_le _, rfl, fun x y h => by simp at h⟩
  | cons a l ih =>
    cases m with
    | nil => exact ⟨Nat.zero_le _, Nat.zero_le _, rfl, fun x y _ h => by simp at h⟩
    | cons b m =>
      cases hs : sameV a b
      · have e : apartR (a :: l) (b :: m) = 0 := by simp [apartR, hs]
        rw [e]
        refine ⟨Nat.zero_le _, Nat.zero_le _, rfl, ?_⟩
        intro x y hx hy
        simp only [List.getElem?_cons_zero, Option.some.injEq] at hx hy
        rw [← hx, ← hy]; exact hs
      · have e : apartR (a :: l) (b :: m) = apartR l m + 1 := by simp [apartR, hs]
        rw [e]
        obtain ⟨h1, h2, h3, h4⟩ := ih m
        have := sameV_iff.1 hs
        subst this
        exact ⟨by simpa using h1, by simpa using h2, by simp [h3], fun x y hx hy => h4 x y (by simpa using hx) (by simpa using hy)⟩

theorem lessR_stop {l m : List Val} {k : Nat} (ht : l.take k = m.take k) (hk : k < l.length) (hk' : k < m.length) (hs : sameV l[k] m[k] = false) : lessR l m = lessV l[k] m[k] ∧ apartR l m = k := by
  induction k generalizing l m with
  | zero =>
    cases l with
    | nil => cases hk
    | cons a l => cases m with
      | nil => cases hk'
      | cons b m =>
        have hs' : sameV a b = false := hs
        exact ⟨by simp [lessR, hs'], by simp [apartR, hs']⟩
  | succ k ih =>
    cases l with
    | nil => cases hk
    | cons a l => cases m with
      | nil => cases hk'
      | cons b m =>
        simp only [List.take_succ_cons, List.cons.injEq] at ht
        obtain ⟨rfl, ht⟩ := ht
        have := ih ht (by simpa using hk) (by simpa using hk') hs
        simp only [lessR, apartR, sameV_self, if_true, this.2, List.getElem_cons_succ]
        exact ⟨this.1, trivial⟩

theorem lessR_short {l m : List Val} {k : Nat} (ht : l.take k = m.take k) (hk : k = l.length ∨ k = m.length) (h1 : k ≤ l.length) (h2 : k ≤ m.length) : lessR l m = decide (l.length < m.length) ∧ apartR l m = k := by
  induction k generalizing l m with
  | zero =>
    cases l with
    | nil => exact ⟨rfl, rfl⟩
    | cons a l => cases m with
      | nil => exact ⟨by simp [lessR], rfl⟩
      | cons b m => simp at hk
  | succ k ih =>
    cases l with
    | nil => simp at h1
    | cons a l => cases m with
      | nil => simp at h2
      | cons b m =>
        simp only [List.take_succ_cons, List.cons.injEq] at ht
        obtain ⟨rfl, ht⟩ := ht
        have := ih ht (by simpa using hk) (by simpa using h1) (by simpa using h2)
        simp only [lessR, apartR, sameV_self, if_true, this.2]
        exact ⟨by rw [this.1]; simp, trivial⟩

end Go.Proofs.YtnolbabpkhdpmaaGreat
