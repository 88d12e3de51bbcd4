/-
  Layer 17 (tx): an insert that may be. (printed by tools/gen_wa.py)
-/
import Derived.Test.YtliokkoalkhpaaaUZ
import Derived.Test.YtliokkoalkhpaaaKR
namespace Go.Proofs.Ytliokkoalkhpaaa
open Go.RowKit Go.Sort Go.BigFrame
attribute [local irreducible] FlowW

theorem within_any (n a b : Int) (w : World) : Calls Try.prog 77 #[.int .i64 n, .int .i64 a, .int .i64 b] w fun e w' => e = .returned (.bool (inQ3 n a b)) ∧ w = w' := by
  have HQ : Hid (inQ3 n a b = (decide (a ≤ n) && decide (n ≤ b))) := (by show _ = _; rfl)
  cases h1 : decide (a ≤ n)
  · have H1 := Lib.hid h1
    go_enter Try.func77, Try.ntmps77
    go_wp2
    go_ret
    exact ⟨ret_bool (by rw [HQ.out, H1.out]; rfl), rfl⟩
  · have H1 := Lib.hid h1
    cases h2 : decide (n ≤ b)
    all_goals
      have H2 := Lib.hid h2
      go_enter Try.func77, Try.ntmps77
      go_wp2
      go_ret
      exact ⟨ret_bool (by rw [HQ.out, H1.out, H2.out]; rfl), rfl⟩
theorem within_b {n a b : Int} {w : World} (r : Bool) (h : inQ3 n a b = r) : Calls Try.prog 77 #[.int .i64 n, .int .i64 a, .int .i64 b] w fun e w' => e = .returned (.bool r) ∧ w = w' := h ▸ within_any n a b w

theorem key_b {n : Int} {w : World} (r : Bool) (h : inQ3 n 0 1073741823 = r) : Calls Try.prog 79 #[.int .i64 n] w fun e w' => e = .returned (.bool r) ∧ w = w' := by
  go_enter Try.func79, Try.ntmps79
  go_wp2_with fail
  refine (within_b r h).mono ?_
  rintro e w1 ⟨rfl, rfl⟩
  go_wp2_with fail
  go_ret
  exact ⟨rfl, rfl⟩
/-- The one column, the one row. -/
def idC : Col := ⟨⟨#[105, 100]⟩, 0, 1, false⟩
def v7 : Val := ⟨1, 7, ⟨#[]⟩⟩
set_option maxRecDepth 100000 in
theorem blank_ins {ar : Option Addr} {cr : Nat} (w : World) : Calls Try.prog 81 #[.agg #[.int .i64 1, .int .i64 0, .int .i64 0, .int .i64 0, .slice ar 1 cr, .int .i64 0, .int .i64 0, .string ⟨#[]⟩, .int .i64 0, .int .i64 0, .int .i64 0]] w fun e w' => e = .returned (.bool true) ∧ Below w.heap.size w w' := by
  go_enter Try.func81, Try.ntmps81
  go_wp2
  go_ret
  exact ⟨rfl, below_alloc _ _⟩
set_option maxRecDepth 100000 in
set_option maxHeartbeats 4000000 in
theorem insert_ok {ac ar : Option Addr} {cc cr : Nat} {w : World} (hc : Rd w (.slice ac 1 cc) 1 (colsCs [idC])) (hr : Rd w (.slice ar 1 cr) 1 (rowCs [v7])) :
    Calls Try.prog 78 #[.agg #[.string ⟨#[97]⟩, .slice ac 1 cc, .slice none 0 0, .slice none 0 0, .slice none 0 0, .slice none 0 0], .agg #[.int .i64 1, .int .i64 0, .int .i64 0, .int .i64 0, .slice ar 1 cr, .int .i64 0, .int .i64 0, .string ⟨#[]⟩, .int .i64 0, .int .i64 0, .int .i64 0]] w fun e w' => e = .returned (.int .i64 0) ∧ Below w.heap.size w w' := by
  obtain ⟨w1, hw1⟩ : ∃ w1, (w.alloc (.cells #[.string ⟨#[97]⟩, .slice ac 1 cc, .slice none 0 0, .slice none 0 0, .slice none 0 0, .slice none 0 0] 62)).alloc (.cells #[.int .i64 1, .int .i64 0, .int .i64 0, .int .i64 0, .slice ar 1 cr, .int .i64 0, .int .i64 0, .string ⟨#[]⟩, .int .i64 0, .int .i64 0, .int .i64 0] 89) = w1 := ⟨_, rfl⟩
  have hb1 : Below w.heap.size w w1 := by rw [← hw1]; exact below_alloc_then (below_alloc _ _)
  have b0 : Bx w1 w.heap.size #[.string ⟨#[97]⟩, .slice ac 1 cc, .slice none 0 0, .slice none 0 0, .slice none 0 0, .slice none 0 0] 62 := by rw [← hw1]; exact bx_later (below_alloc _ _) (bx_new (by simp))
  have b1 : Bx w1 (w.heap.size + 1) #[.int .i64 1, .int .i64 0, .int .i64 0, .int .i64 0, .slice ar 1 cr, .int .i64 0, .int .i64 0, .string ⟨#[]⟩, .int .i64 0, .int .i64 0, .int .i64 0] 89 := by rw [← hw1]; exact bx_new (by simp)
  have p0 := cell_of_box b1 0 rfl
  have p1 := cell_of_box b1 1 rfl
  have p2 := cell_of_box b1 2 rfl
  have p3 := cell_of_box b1 3 rfl
  have p4 := cell_of_box b1 4 rfl
  have p5 := cell_of_box b1 5 rfl
  have p6 := cell_of_box b1 6 rfl
  have p7 := cell_of_box b1 7 rfl
  have p8 := cell_of_box b1 8 rfl
  have p9 := cell_of_box b1 9 rfl
  have p10 := cell_of_box b1 10 rfl
  have HW := Lib.hid hw1
  have HB1 := Lib.hid hb1
  have HT := Lib.hid b0
  have HO := Lib.hid b1
  have HC := Lib.hid hc
  have HR := Lib.hid hr
  clear hw1 hb1 b0 b1 hc hr
  go_enter Try.func78, Try.ntmps78
  go_wp2_with fail
  rw [HW.out]
  go_wp2_with fail
  refine (blank_ins _).mono ?_
  rintro e w2 ⟨rfl, hb2⟩
  have HB2 := Lib.hid (below_then HB1.out hb2)
  have t1 := cell_of_box (bx_later hb2 HT.out) 1 rfl
  have q4 := cell_of_box (bx_later hb2 HO.out) 4 rfl
  have HO2 := Lib.hid (bx_later hb2 HO.out)
  clear hb2 p0 p1 p2 p3 p4 p5 p6 p7 p8 p9 p10
  go_wp2_with fail
  refine (rightR_any _ _ [idC] [v7] _ (HC.out.later HB2.out) (HR.out.later HB2.out)).mono ?_
  rintro e w3 ⟨rfl, hb3⟩
  have hz : rightR [idC] [v7] = 0 := by decide +kernel
  rw [hz]
  have HB3 := Lib.hid (below_then HB2.out hb3)
  have r4 := cell_of_box (bx_later hb3 HO2.out) 4 rfl
  have HR3 := HR.out.later HB3.out
  obtain ⟨b, oo, hi, c0, c1, c2, _⟩ := rd_val (l := [v7]) HR3 rfl 0 (by simp)
  have c1' : w3.cell? ⟨b, oo + 1, none⟩ = some (.int .i64 7) := c1
  have hi' : ∀ W, (Instr.indexAt 85 (.slice ar 1 cr) (.int .i64 0)).run Try.prog W = .ok (.pointer (some ⟨b, oo, none⟩)) W := hi
  clear hb3 t1 q4 hz c0 c1 c2 hi HR3
  go_wp2_with fail
  refine (key_b true (by decide)).mono ?_
  rintro e w4 ⟨rfl, rfl⟩
  go_wp2_with fail
  go_ret
  exact ⟨rfl, HB3.out⟩

theorem elTab : El Try.prog 49 62 6 136 (.agg #[.string ⟨#[]⟩, .slice none 0 0, .slice none 0 0, .slice none 0 0, .slice none 0 0, .slice none 0 0]) := El.mk' (by kernel_rfl) (by kernel_rfl) rfl (by decide)
end Go.Proofs.Ytliokkoalkhpaaa
