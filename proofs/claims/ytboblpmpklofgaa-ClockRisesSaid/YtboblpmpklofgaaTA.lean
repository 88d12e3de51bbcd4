/-
  Layer 4 (clock): the chapter's examples; openings.
-/
import Derived.Test.YtboblpmpklofgaaTR
import Derived.Test.YtboblpmpklofgaaTN
import Derived.Test.YtboblpmpklofgaaLaw
namespace Go.Proofs.Ytboblpmpklofgaa
open Go.RowKit Go.Sort Go.BigFrame

def exL : List Stp := [⟨2, 1, 1⟩, ⟨1, 2, 1⟩, ⟨1, 1, 7⟩]
theorem exL_order : orderL exL = [2, 1, 0] := by decide
theorem ex1 : nextT 5 3 = (6, 0) := by decide
theorem ex2 : nextT 5 9 = (9, 0) := by decide
theorem ex3 : nextT 5 1048582 = (0, 14) := by decide

set_option maxRecDepth 100000 in
set_option maxHeartbeats 1000000 in
theorem awake_any (w : World) : Calls Try.prog 9 #[] w fun e w' => e = .returned (.bool true) ∧ Below w.heap.size w w' := by
  have HB := Lib.hid (Below.refl w.heap.size w)
  go_enter Try.func9, Try.ntmps9
  go_wp2_with fail
  refine (nextT_any 5 3 _).mono ?_
  rintro e w' ⟨rfl, rfl⟩
  rw [ex1]
  go_wp2_with fail
  refine (nextT_any 5 9 _).mono ?_
  rintro e w' ⟨rfl, rfl⟩
  rw [ex2]
  go_wp2_with fail
  refine (nextT_any 5 1048582 _).mono ?_
  rintro e w' ⟨rfl, rfl⟩
  rw [ex3]
  go_wp2_with fail
  refine (order_any _ exL _ (rd_lit w _ _ 3 (by decide)) (by decide)).mono ?_
  rintro e w1 ⟨v1, rfl, hr1, hb1⟩
  replace HB := Lib.hid (below_then HB.out (by first | exact hb1 | exact below_alloc_then hb1))
  rw [exL_order] at hr1
  have HR1 := Lib.hid hr1
  clear hr1 hb1
  go_wp2_with fail
  refine (sameI_any _ _ [2, 1, 0] [2, 1, 0] _ (HR1.out.later (below_alloc _ _)) (rd_lit w1 _ _ 3 (by decide)) (by decide)).mono ?_
  rintro e w2 ⟨rfl, hb2⟩
  replace HB := Lib.hid (below_then HB.out (by first | exact hb2 | exact below_alloc_then hb2))
  clear hb2
  rw [decide_eq_true rfl]
  go_wp2_with fail
  refine (less_any ⟨1, 0, 0⟩ ⟨2, 0, 0⟩ _).mono ?_
  rintro e w3 ⟨rfl, hb3⟩
  replace HB := Lib.hid (below_then HB.out (by first | exact hb3 | exact below_alloc_then hb3))
  clear hb3
  rw [show lessS ⟨1, 0, 0⟩ ⟨2, 0, 0⟩ = true from rfl]
  go_wp2_with fail
  refine (less_any ⟨0, 0, 0⟩ ⟨0, 0, 0⟩ _).mono ?_
  rintro e w4 ⟨rfl, hb4⟩
  replace HB := Lib.hid (below_then HB.out (by first | exact hb4 | exact below_alloc_then hb4))
  clear hb4
  rw [show lessS ⟨0, 0, 0⟩ ⟨0, 0, 0⟩ = false from rfl]
  go_wp2_with fail
  go_ret
  exact ⟨rfl, HB.out⟩
end Go.Proofs.Ytboblpmpklofgaa
