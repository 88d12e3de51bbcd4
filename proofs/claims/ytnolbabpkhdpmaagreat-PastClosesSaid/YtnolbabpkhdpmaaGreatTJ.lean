/-
  Layer 17 (tx): the document's Same of vectors. (printed by tools/gen_tj.py)
-/
import Derived.Test.YtnolbabpkhdpmaaGreatTI
namespace Go.Proofs.YtnolbabpkhdpmaaGreat
open Go.RowKit Go.Sort Go.BigFrame

def SamePostW (a b : List Int) (w : World) (e : Ending) (w' : World) : Prop := ∃ r, e = .returned (.bool r) ∧ (r = true ↔ SameV a b) ∧ w = w'

set_option maxRecDepth 100000 in
set_option maxHeartbeats 1000000 in
theorem refSameV2_any (va vb : Value) (a b : List Int) (w : World) (ha : Rd w va a.length (a.map ic)) (hb : Rd w vb b.length (b.map ic)) (hla : a.length ≤ 1000000000000000) (hlb : b.length ≤ 1000000000000000) :
    Calls Tryz.prog 66 #[va, vb] w (SamePostW a b w) := by
  have HL := Lib.hid (long_any va vb a b w ha hb)
  have HA := Lib.hid ha
  have HB := Lib.hid hb
  obtain ⟨ao, ca, rfl, hna, hca, _, _⟩ := id ha
  obtain ⟨bo, cb, rfl, hnb, hcb, _, _⟩ := id hb
  unfold maxLen at hca hcb
  have hm' : longN a b ≤ 1000000000000000 := by unfold longN; omega
  obtain ⟨m, hm⟩ : ∃ m, longN a b = m := ⟨_, rfl⟩
  rw [hm] at HL hm'
  have HM := Lib.hid hm
  clear ha hb hm hna hnb hca hcb hla hlb
  go_enter Tryz.func66, Tryz.ntmps66
  go_wp2_with fail
  go_loop [5] (fun vi => ∃ k : Nat, k ≤ m ∧ vi = .int .i64 ((k : Int) + 1) ∧ Hid (∀ j : Nat, j < k → ofV a ((j : Int) + 1) = ofV b ((j : Int) + 1))) (fun vi => m + 1 - (intOf vi).toNat)
  case atStart => exact ⟨0, Nat.zero_le _, rfl, fun j hj => absurd hj (by omega)⟩
  case round =>
    obtain ⟨k, hk, rfl, hall⟩ := hrel
    go_wp2_with fail
    refine HL.out.mono ?_
    rintro e w1 ⟨rfl, rfl⟩
    by_cases hlt : k < m
    · have h1 : decide (k < m) = true := decide_eq_true hlt
      have h2 : decide ((k : Int) + 1 ≤ (m : Int)) = true := decide_eq_true (by omega)
      have h3 : decide ((k : Int) < (m : Int)) = true := decide_eq_true (by omega)
      have h5 : (k : Int) + 1 ≤ (m : Int) := by omega
      have hx := refOfV_any _ a ((k : Int) + 1) w HA.out
      have hy := refOfV_any _ b ((k : Int) + 1) w HB.out
      obtain ⟨x, hxe⟩ : ∃ x, ofV a ((k : Int) + 1) = x := ⟨_, rfl⟩
      obtain ⟨y, hye⟩ : ∃ y, ofV b ((k : Int) + 1) = y := ⟨_, rfl⟩
      rw [hxe] at hx
      rw [hye] at hy
      have HX := Lib.hid hx
      have HY := Lib.hid hy
      have HXE := Lib.hid hxe
      have HYE := Lib.hid hye
      clear hx hy hxe hye
      go_wp2_with fail
      refine HX.out.mono ?_
      rintro e w1 ⟨rfl, rfl⟩
      go_wp2_with fail
      refine HY.out.mono ?_
      rintro e w1 ⟨rfl, rfl⟩
      by_cases hxy : x ≠ y
      · have h4 : (x == y) = false := by simpa using hxy
        have h6 : (x != y) = true := by simpa using hxy
        go_wp2_with fail
        go_ret
        refine ⟨false, rfl, ⟨(fun h => by cases h), fun h => ?_⟩, rfl⟩
        have := h ((k : Int) + 1)
        rw [HXE.out, HYE.out] at this
        omega
      · have hxy' : x = y := Classical.not_not.1 hxy
        have h4 : (x == y) = true := by simpa using hxy'
        have h6 : (x != y) = false := by simpa using hxy'
        go_wp2_with fail
        go_round
        case rel =>
          refine ⟨k + 1, by omega, by go_num, fun j hj => ?_⟩
          rcases Nat.lt_or_ge j k with h | h
          · exact hall.out j h
          · obtain rfl : j = k := by omega
            rw [HXE.out, HYE.out]; omega
        case measure => simp [intOf]; omega
    · have hkm : k = m := by omega
      subst hkm
      have h1 : decide ((k : Int) + 1 ≤ (k : Int)) = false := decide_eq_false (by omega)
      have h5 : ¬ (k : Int) + 1 ≤ (k : Int) := by omega
      go_wp2_with fail
      go_ret
      exact ⟨true, rfl, ⟨fun _ => same_of (by rw [HM.out]; exact Nat.le_refl _) hall.out, fun _ => rfl⟩, rfl⟩

theorem same_eq {a b : List Int} (hl : a.length = b.length) (h : SameV a b) : a = b := by
  refine List.ext_getElem hl fun j h1 h2 => ?_
  have := h ((j : Int) + 1)
  rwa [ofV_at h1 rfl, ofV_at h2 rfl] at this

end Go.Proofs.YtnolbabpkhdpmaaGreat
