/-
  Layer 4 (clock): stamps, their order.
-/
import Derived.Test.YtnolbabpkhdpmaaGreatBase
import Derived.Deep.DeepCutAuto
import Derived.Test.YtnolbabpkhdpmaaGreatMA
namespace Go.Proofs.YtnolbabpkhdpmaaGreat
open Go.RowKit Go.Sort Go.BigFrame

/-- A stamp. -/
structure Stp where
  t : Int
  d : Int
  s : Int
  deriving DecidableEq

def Stp.cs (v : Stp) : List Value := [.int .i64 v.t, .int .i64 v.d, .int .i64 v.s]
abbrev Stp.agg (v : Stp) : Value := .agg #[.int .i64 v.t, .int .i64 v.d, .int .i64 v.s]


def cmpS (a b : Stp) : Int := if a.t = b.t then (if a.d = b.d then cmpI a.s b.s else cmpI a.d b.d) else cmpI a.t b.t

def lessS (a b : Stp) : Bool := if a.t = b.t then (if a.d = b.d then decide (a.s < b.s) else decide (a.d < b.d)) else decide (a.t < b.t)

theorem cmpS_neg (a b : Stp) : decide (cmpS a b < 0) = lessS a b := by
  unfold cmpS lessS cmpI
  split
  · split
    · by_cases h : a.s < b.s
      · simp [h]
      · by_cases h' : b.s < a.s <;> simp [h, h']
    · by_cases h : a.d < b.d
      · simp [h]
      · by_cases h' : b.d < a.d <;> simp [h, h']
  · by_cases h : a.t < b.t
    · simp [h]
    · by_cases h' : b.t < a.t <;> simp [h, h']



theorem key_any (a : Stp) (w : World) : Calls Tryz.prog 91 #[a.agg] w fun e w' => e = .returned a.agg ∧ Below w.heap.size w w' := by
  go_enter Tryz.func91, Tryz.ntmps91
  go_wp2
  exact bodyPost_ret (v := a.agg) (by simp [results, Tryz.results91, go_sem]) rfl ⟨rfl, ((Below.refl _ _).alloc (Nat.le_refl _) _).alloc (by simp) _⟩



def cmpL : List Int → List Int → Int
  | [], [] => 0
  | [], _ :: _ => -1
  | _ :: _, [] => 1
  | a :: l, b :: m => if a = b then cmpL l m else cmpI a b

theorem cmpL_stop {l m : List Int} {k : Nat} (ht : l.take k = m.take k) (hk : k < l.length) (hk' : k < m.length) (hs : l[k] ≠ m[k]) : cmpL l m = cmpI l[k] m[k] := by
  induction k generalizing l m with
  | zero =>
    cases l with
    | nil => cases hk
    | cons a l => cases m with
      | nil => cases hk'
      | cons b m => exact if_neg hs
  | succ k ih =>
    cases l with
    | nil => cases hk
    | cons a l => cases m with
      | nil => cases hk'
      | cons b m =>
        simp only [List.take_succ_cons, List.cons.injEq] at ht
        obtain ⟨rfl, ht⟩ := ht
        have := ih ht (by simpa using hk) (by simpa using hk') hs
        simpa [cmpL] using this

theorem cmpL_same (l : List Int) : cmpL l l = 0 := by
  induction l with
  | nil => rfl
  | cons a l ih => simpa [cmpL] using ih

theorem take_next {α : Type} {a b : List α} {k : Nat} (ha : k < a.length) (hb : k < b.length) (h : a.take k = b.take k) (hk : a[k] = b[k]) : a.take (k + 1) = b.take (k + 1) := by
  rw [List.take_succ_eq_append_getElem ha, List.take_succ_eq_append_getElem hb, h, hk]

theorem cmpI_ne {x y : Int} (h : x ≠ y) : (cmpI x y == 0) = false := by
  unfold cmpI
  rcases Int.lt_or_gt_of_ne h with h | h
  · simp [h]
  · have : ¬ x < y := by omega
    simp [h, this]
theorem cmpI_eq {x y : Int} (h : x = y) : (cmpI x y == 0) = true := by
  subst h; simp [cmpI]

set_option maxRecDepth 100000 in
set_option maxHeartbeats 400000 in
theorem compareL_any (va vb : Value) (l m : List Int) (w : World) (ha : Rd w va l.length (l.map ic)) (hb : Rd w vb m.length (m.map ic)) (hlm : l.length = m.length) (hl : l.length ≤ 1000000) :
    Calls Tryz.prog 92 #[va, vb] w fun e w' => e = .returned (.int .i64 (cmpL l m)) ∧ w = w' := by
  obtain ⟨aa, ca, rfl, hna, hma, _, _⟩ := id ha
  obtain ⟨ab, cb, rfl, hnb, hmb, _, _⟩ := id hb
  have HA := Lib.hid ha
  have HB := Lib.hid hb
  have HLM := Lib.hid hlm
  obtain ⟨n, hn⟩ : ∃ n, l.length = n := ⟨_, rfl⟩
  rw [show (m.length : Nat) = n from by omega, hn]
  rw [hn] at hl
  have HN := Lib.hid hn
  clear ha hb hlm hn hna hma hnb hmb
  go_enter Tryz.func92, Tryz.ntmps92
  go_wp2
  go_loop [11] (fun i => ∃ k : Nat, k ≤ n ∧ i = .int .i64 k ∧ Hid (l.take k = m.take k)) (fun i => n - (intOf i).toNat)
  case atStart => exact ⟨0, Nat.zero_le _, rfl, rfl⟩
  case round =>
    obtain ⟨k, hk, rfl, ht⟩ := hrel
    by_cases hlt : k < n
    · have hk1 : k < l.length := by have := HN.out; omega
      have hk2 : k < m.length := by have := HN.out; have := HLM.out; omega
      obtain ⟨A, i1, c1, _⟩ := rd_one elInts ic HA.out rfl k hk1
      obtain ⟨B, i2, c2, _⟩ := rd_one elInts ic HB.out rfl k hk2
      rw [HN.out] at i1
      rw [← HLM.out, HN.out] at i2
      obtain ⟨x, hx⟩ : ∃ x, l[k] = x := ⟨_, rfl⟩
      obtain ⟨y, hy⟩ : ∃ y, m[k] = y := ⟨_, rfl⟩
      rw [hx] at c1
      rw [hy] at c2
      by_cases hxy : x = y
      · have hz := cmpI_eq hxy
        have hn := Lib.hid (take_next hk1 hk2 ht.out (by rw [hx, hy, hxy]))
        clear hx hy hxy ht hk1 hk2
        go_wp2_with (go_at_call 107; refine (cmpInt_any _ _ _).mono ?_; rintro e w' ⟨rfl, rfl⟩)
        go_round
        case rel => exact ⟨k + 1, by omega, by go_num, hn⟩
        case measure => simp [intOf]; omega
      · have hz := cmpI_ne hxy
        have hs := Lib.hid (cmpL_stop ht.out hk1 hk2 (by rw [hx, hy]; exact hxy))
        have HX := Lib.hid hx
        have HY := Lib.hid hy
        clear hx hy hxy ht
        go_wp2_with (go_at_call 107; refine (cmpInt_any _ _ _).mono ?_; rintro e w' ⟨rfl, rfl⟩)
        go_ret
        exact ⟨ret_int (by rw [hs.out, HX.out, HY.out]), rfl⟩
    · have he : cmpL l m = 0 := by
        have := ht.out
        rw [List.take_of_length_le (by have := HN.out; omega), List.take_of_length_le (by have := HN.out; have := HLM.out; omega)] at this
        rw [this]; exact cmpL_same _
      have HE := Lib.hid he
      clear he ht
      go_wp2
      go_ret
      exact ⟨ret_int HE.out.symm, rfl⟩

theorem cmpL_key (a b : Stp) : cmpL [a.t, a.d, a.s] [b.t, b.d, b.s] = cmpS a b := by
  unfold cmpS
  by_cases h1 : a.t = b.t
  · by_cases h2 : a.d = b.d
    · by_cases h3 : a.s = b.s
      · simp [cmpL, h1, h2, h3, cmpI]
      · simp [cmpL, h1, h2, h3]
    · simp [cmpL, h1, h2]
  · simp [cmpL, h1]
end Go.Proofs.YtnolbabpkhdpmaaGreat
