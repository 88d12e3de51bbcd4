/-
  Layer 17 (tx): the reader: many, op, hand. (printed by tools/gen_us.py)
-/
import Derived.Test.YtliokkoalkhpaaaUR
namespace Go.Proofs.Ytliokkoalkhpaaa
open Go.RowKit Go.Sort Go.BigFrame
attribute [local irreducible] FlowW

def manyD : List UInt8 → Option (Int × Nat) := onlyD (fun n : Int => inQ3 n 0 2000) get
set_option maxRecDepth 100000 in
set_option maxHeartbeats 4000000 in
theorem many_any {w0 w : World} {g : Nat} {b : List UInt8} (hr : Rdr w0 w g b) (hb : Below w0.heap.size w0 w) :
    Calls Try.prog 69 #[.pointer (some ⟨g, 0, none⟩)] w (ReadP w0 w g b manyD fun _ v x => v = .int .i64 x ∧ inQ3 x 0 2000 = true) := by
  obtain ⟨a, n, c, hq, hrd, hn⟩ := hr
  have f0 := cell_of_box hq 0 rfl
  have ff := frozen_of_box hq 0
  have HQ := Lib.hid hq
  have HR0 := Lib.hid hrd
  have HR := Lib.hid (hrd.later hb)
  have HN := Lib.hid hn
  have HB := Lib.hid hb
  have hgw : g < w.heap.size := (Array.getElem?_eq_some_iff.1 hq).1
  have hnc : n ≤ c := by obtain ⟨_, _, hv, h1, -, -, -⟩ := id hrd; cases hv; omega
  have hcm : c ≤ maxLen := by obtain ⟨_, _, hv, -, h1, -, -⟩ := id hrd; cases hv; exact h1
  unfold maxLen at hcm
  have HGW := Lib.hid hgw
  cases hg : get b with
  | none =>
    have HG := Lib.hid hg
    have HS : Hid (manyD b = none) := by show _ = _; unfold manyD onlyD; rw [hg]
    clear hq hrd hn hg hb
    go_enter Try.func69, Try.ntmps69
    go_wp2_with fail
    refine (get_no HR.out HN.out HG.out).mono ?_
    rintro e w1 ⟨rfl, rfl⟩
    go_wp2_with fail
    refine (must_false _ _).mono ?_
    rintro e w9 ⟨rfl, rfl⟩
    go_wp2_with fail
    exact ⟨rfl, But.refl _ _, .inl ⟨HS.out, rfl⟩⟩
  | some p =>
    obtain ⟨x, k⟩ := p
    have HG := Lib.hid hg
    have hkl := (get_takes _ _ _ hg).2
    have hx1 := (get_some hg).1
    have hx2 := (get_some hg).2.1
    cases hi : inQ3 x 0 2000
    · have HI := Lib.hid hi
      have HS : Hid (manyD b = none) := by show _ = _; unfold manyD onlyD; rw [hg]; simp [hi]
      clear hq hrd hn hg hb hi
      go_enter Try.func69, Try.ntmps69
      go_wp2_with fail
      refine (get_yes HR.out HN.out HG.out).mono ?_
      rintro e w1 ⟨rfl, rfl⟩
      go_wp2_with fail
      refine (txIn_b false HI.out).mono ?_
      rintro e w2 ⟨rfl, rfl⟩
      go_wp2_with fail
      refine (must_false _ _).mono ?_
      rintro e w9 ⟨rfl, rfl⟩
      go_wp2_with fail
      exact ⟨rfl, But.refl _ _, .inl ⟨HS.out, rfl⟩⟩
    · have HI := Lib.hid hi
      have HS : Hid (manyD b = some (x, k)) := by show _ = _; unfold manyD onlyD; rw [hg]; simp [hi]
      obtain ⟨a2, c2, hsl, hrs⟩ := run_part_lo elB hrd (by simp [hn]) k (by omega)
      rw [Nat.mul_one, ← List.map_drop] at hrs
      have HRS := Lib.hid hrs
      have HLS : Hid (n - k = (b.drop k).length) := by show _ = _; rw [List.length_drop, hn]
      have hkn : k ≤ n := by omega
      clear hq hrd hn hg hb hi hrs
      go_enter Try.func69, Try.ntmps69
      go_wp2_with fail
      refine (get_yes HR.out HN.out HG.out).mono ?_
      rintro e w1 ⟨rfl, rfl⟩
      go_wp2_with fail
      refine (txIn_b true HI.out).mono ?_
      rintro e w2 ⟨rfl, rfl⟩
      go_wp2_with fail
      refine (must_true _ _).mono ?_
      rintro e w2 ⟨rfl, rfl⟩
      go_wp2_with fail
      go_ret
      exact ⟨(But.refl (fun k => k = g) w).set (a := ⟨g, 0, none⟩) rfl _, .inr ⟨_, x, k, HS.out, rfl, hkl, rdr_set HQ.out HRS.out HLS.out, rfl, HI.out⟩⟩

theorem but_row_new {S : Nat → Prop} {w w' : World} {q : Nat} (h : But S w w') (hq : w.heap.size ≤ q) (cs : Array Value) : But S w (w'.setRow q cs) :=
  h.trans (but_row w' q cs) (fun i hi e => by subst e; omega)
theorem rdr_row {w0 w : World} {g q : Nat} {b : List UInt8} (h : Rdr w0 w g b) (hne : g ≠ q) (cs : Array Value) : Rdr w0 (w.setRow q cs) g b := by
  obtain ⟨a, n, c, h1, h2, h3⟩ := h
  exact ⟨a, n, c, bx_row_other h1 hne cs, h2, h3⟩
theorem seven_rd {w : World} {av : Option Addr} {cv : Nat} {x0 x1 x2 x3 x4 x5 x6 : Int} (h : Rd w (.slice av 7 cv) 7 ([x0, x1, x2, x3, x4, x5, x6].map ic)) :
    ∃ A0 A1 A2 A3 A4 A5 A6 : Addr, (∀ W, (Instr.indexAt 22 (.slice av 7 cv) (.int .i64 0)).run Try.prog W = .ok (.pointer (some A0)) W) ∧ (∀ W, (Instr.indexAt 22 (.slice av 7 cv) (.int .i64 1)).run Try.prog W = .ok (.pointer (some A1)) W) ∧ (∀ W, (Instr.indexAt 22 (.slice av 7 cv) (.int .i64 2)).run Try.prog W = .ok (.pointer (some A2)) W) ∧ (∀ W, (Instr.indexAt 22 (.slice av 7 cv) (.int .i64 3)).run Try.prog W = .ok (.pointer (some A3)) W) ∧ (∀ W, (Instr.indexAt 22 (.slice av 7 cv) (.int .i64 4)).run Try.prog W = .ok (.pointer (some A4)) W) ∧ (∀ W, (Instr.indexAt 22 (.slice av 7 cv) (.int .i64 5)).run Try.prog W = .ok (.pointer (some A5)) W) ∧ (∀ W, (Instr.indexAt 22 (.slice av 7 cv) (.int .i64 6)).run Try.prog W = .ok (.pointer (some A6)) W) ∧ w.cell? A0 = some (.int .i64 x0) ∧ w.cell? A1 = some (.int .i64 x1) ∧ w.cell? A2 = some (.int .i64 x2) ∧ w.cell? A3 = some (.int .i64 x3) ∧ w.cell? A4 = some (.int .i64 x4) ∧ w.cell? A5 = some (.int .i64 x5) ∧ w.cell? A6 = some (.int .i64 x6) := by
  obtain ⟨A0, i0, d0, _⟩ := rd_one elI ic h rfl 0 (by simp)
  obtain ⟨A1, i1, d1, _⟩ := rd_one elI ic h rfl 1 (by simp)
  obtain ⟨A2, i2, d2, _⟩ := rd_one elI ic h rfl 2 (by simp)
  obtain ⟨A3, i3, d3, _⟩ := rd_one elI ic h rfl 3 (by simp)
  obtain ⟨A4, i4, d4, _⟩ := rd_one elI ic h rfl 4 (by simp)
  obtain ⟨A5, i5, d5, _⟩ := rd_one elI ic h rfl 5 (by simp)
  obtain ⟨A6, i6, d6, _⟩ := rd_one elI ic h rfl 6 (by simp)
  exact ⟨A0, A1, A2, A3, A4, A5, A6, i0, i1, i2, i3, i4, i5, i6, d0, d1, d2, d3, d4, d5, d6⟩
theorem rowGet_no {v : Value} {b : List UInt8} {n : Nat} {w : World} (h : Rd w v n (b.map bc)) (hn : n = b.length) (hl : b.length ≤ 1000000000) (hg : getR b = none) :
    Calls Try.prog 67 #[v] w fun e w' => e = .returned (.tuple #[.slice none 0 0, .int .i64 0, .int .i64 3]) ∧ Below w.heap.size w w' := by
  subst hn
  refine (getR_any v b w h hl).mono ?_
  rintro e w' ⟨hb, ⟨_, rfl⟩ | ⟨v', l, k, he, _⟩⟩
  · exact ⟨rfl, hb⟩
  · rw [hg] at he; cases he
theorem rowGet_yes {v : Value} {b : List UInt8} {n : Nat} {w : World} (h : Rd w v n (b.map bc)) (hn : n = b.length) (hl : b.length ≤ 1000000000) {l : List Val} {k : Nat} (hg : getR b = some (l, k)) :
    Calls Try.prog 67 #[v] w fun e w' => ∃ a c, e = .returned (.tuple #[.slice a l.length c, .int .i64 k, .int .i64 0]) ∧ w'.ownsRow w.heap.size 87 3 (.slice a l.length c) l.length (rowCs l) ∧ Below w.heap.size w w' := by
  subst hn
  refine (getR_any v b w h hl).mono ?_
  rintro e w' ⟨hb, ⟨he, _⟩ | ⟨v', l', k', he, rfl, ho⟩⟩
  · rw [hg] at he; cases he
  · rw [hg] at he
    cases he
    obtain ⟨a, c, rfl, -⟩ := Rd.of_own ho
    exact ⟨a, c, rfl, ho, hb⟩

set_option maxRecDepth 100000 in
set_option maxHeartbeats 4000000 in
theorem hand_any {w0 w : World} {g : Nat} {b : List UInt8} (hr : Rdr w0 w g b) (hb : Below w0.heap.size w0 w) (hl : b.length ≤ 1000000000) :
    Calls Try.prog 43 #[.pointer (some ⟨g, 0, none⟩)] w (ReadP w0 w g b handD fun _ v x => v = .agg x.cs.toArray) := by
  obtain ⟨a, n, c, hq, hrd, hn⟩ := hr
  have f0 := cell_of_box hq 0 rfl
  have ff := frozen_of_box hq 0
  have HQ := Lib.hid hq
  have HR0 := Lib.hid hrd
  have HR := Lib.hid (hrd.later hb)
  have HN := Lib.hid hn
  have HB := Lib.hid hb
  have hgw : g < w.heap.size := (Array.getElem?_eq_some_iff.1 hq).1
  have hnc : n ≤ c := by obtain ⟨_, _, hv, h1, -, -, -⟩ := id hrd; cases hv; omega
  have hcm : c ≤ maxLen := by obtain ⟨_, _, hv, -, h1, -, -⟩ := id hrd; cases hv; exact h1
  unfold maxLen at hcm
  have HGW := Lib.hid hgw
  have hb1 : Below w.heap.size w (w.alloc (.cells #[.int .i64 0, .int .i64 0, .int .i64 0, .int .i64 0, .int .i64 0, .int .i64 0, .int .i64 0] 67)) := below_alloc _ _
  have hbx : Bx (w.alloc (.cells #[.int .i64 0, .int .i64 0, .int .i64 0, .int .i64 0, .int .i64 0, .int .i64 0, .int .i64 0] 67)) w.heap.size #[.int .i64 0, .int .i64 0, .int .i64 0, .int .i64 0, .int .i64 0, .int .i64 0, .int .i64 0] 67 := bx_new rfl
  have hr1 : Rdr w0 (w.alloc (.cells #[.int .i64 0, .int .i64 0, .int .i64 0, .int .i64 0, .int .i64 0, .int .i64 0, .int .i64 0] 67)) g b := rdr_later ⟨a, n, c, hq, hrd, hn⟩ hb1
  have hbb := below_then hb hb1
  obtain ⟨w1, hw1⟩ : ∃ w1, w.alloc (.cells #[.int .i64 0, .int .i64 0, .int .i64 0, .int .i64 0, .int .i64 0, .int .i64 0, .int .i64 0] 67) = w1 := ⟨_, rfl⟩
  rw [hw1] at hb1 hbx hr1 hbb
  have HW1 := Lib.hid hw1
  have HBX := Lib.hid hbx
  have HB1 := Lib.hid hb1
  have C := Lib.hid (some7_any hr1 hbb hl)
  clear hq hrd hn hb hw1 hr1 hbb hb1 hbx f0 ff
  go_enter Try.func43, Try.ntmps43
  go_wp2_with fail
  rw [HW1.out]
  refine C.out.mono ?_
  rintro e w2 ⟨hb2, hc | hc⟩
  · obtain ⟨hd, rfl⟩ := hc
    have HS : Hid (handD b = none) := by show _ = _; unfold handD mapD; rw [hd]; rfl
    have HB2 := Lib.hid hb2
    clear hd hb2
    go_wp2_with fail
    exact ⟨rfl, (But.of_below HB1.out).trans HB2.out (fun i _ e => e), .inl ⟨HS.out, rfl⟩⟩
  · obtain ⟨v, l, k, hd, rfl, hkl, hr2, av, cv, rfl, hown⟩ := hc
    have hl7 : l.length = 7 := (sevenD_puts.2 _ _ _ hd).1.1
    have HS : Hid (handD b = some (handOf l, k)) := by show _ = _; unfold handD mapD; rw [hd]; rfl
    obtain ⟨x0, x1, x2, x3, x4, x5, x6, rfl⟩ := seven_of hl7
    have hrl : Rd w2 (.slice av 7 cv) 7 ([x0, x1, x2, x3, x4, x5, x6].map ic) := Rd.of_own hown
    obtain ⟨A0, A1, A2, A3, A4, A5, A6, i0, i1, i2, i3, i4, i5, i6, d0, d1, d2, d3, d4, d5, d6⟩ := seven_rd hrl
    have HR2 := Lib.hid hr2
    have HB2 := Lib.hid hb2
    have HX2 := Lib.hid (bx_but HBX.out hb2 (by have := HGW.out; omega))
    have hcv : 7 ≤ cv := by obtain ⟨_, _, hv, h1, -, -, -⟩ := id hrl; cases hv; omega
    have hcw : cv ≤ maxLen := by obtain ⟨_, _, hv, -, h1, -, -⟩ := id hrl; cases hv; exact h1
    unfold maxLen at hcw
    clear hd hb2 hown hr2 hrl hl7 C
    go_wp2_with fail
    refine wp_region_flow (by kernel_rfl) 23 [] (by kernel_rfl) ?_ ?_ ?_
    · intro x hx; cases hx
    · intro x hx; cases hx
    · intro lo hi
      have kd0 := cell_regrown d0
      have kd1 := cell_regrown d1
      have kd2 := cell_regrown d2
      have kd3 := cell_regrown d3
      have kd4 := cell_regrown d4
      have kd5 := cell_regrown d5
      have kd6 := cell_regrown d6
      refine flowW_plain rfl ?_
      go_big_quiet_step (fail)
      refine wpQuiet_nil ?_
      refine flowW_plain rfl ?_
      go_big_quiet_step (fail)
      refine wpQuiet_nil ?_
      refine flowW_plain rfl ?_
      go_big_quiet_step (fail)
      refine wpQuiet_nil ?_
      refine flowW_plain rfl ?_
      go_big_quiet_step (fail)
      refine wpQuiet_nil ?_
      refine flowW_plain rfl ?_
      go_big_quiet_step (fail)
      refine wpQuiet_nil ?_
      refine flowW_plain rfl ?_
      go_big_quiet_step (fail)
      refine wpQuiet_nil ?_
      refine flowW_plain rfl ?_
      go_big_quiet_step (fail)
      refine wpQuiet_nil ?_
      refine flowW_plain rfl ?_
      go_big_quiet_step (fail)
      refine wpQuiet_nil ?_
      refine flowW_plain rfl ?_
      go_big_quiet_step (fail)
      refine wpQuiet_nil ?_
      refine flowW_plain rfl ?_
      go_big_quiet_step (fail)
      refine wpQuiet_nil ?_
      refine flowW_plain rfl ?_
      go_big_quiet_step (fail)
      refine wpQuiet_nil ?_
      refine flowW_plain rfl ?_
      go_big_quiet_step (fail)
      refine wpQuiet_nil ?_
      refine flowW_plain rfl ?_
      go_big_quiet_step (fail)
      refine wpQuiet_nil ?_
      refine flowW_plain rfl ?_
      go_big_quiet_step (fail)
      refine wpQuiet_nil ?_
      refine flowW_plain rfl ?_
      go_big_quiet_step (fail)
      refine wpQuiet_nil ?_
      refine flowW_plain rfl ?_
      go_big_quiet_step (fail)
      refine wpQuiet_nil ?_
      refine flowW_plain rfl ?_
      go_big_quiet_step (fail)
      refine wpQuiet_nil ?_
      refine flowW_plain rfl ?_
      go_big_quiet_step (fail)
      refine wpQuiet_nil ?_
      refine flowW_plain rfl ?_
      go_big_quiet_step (fail)
      refine wpQuiet_nil ?_
      refine flowW_plain rfl ?_
      go_big_quiet_step (fail)
      refine wpQuiet_nil ?_
      refine flowW_plain rfl ?_
      go_big_quiet_step (fail)
      refine wpQuiet_nil ?_
      refine flowW_plain rfl ?_
      go_big_quiet_step (fail)
      refine wpQuiet_nil ?_
      refine flowW_plain rfl ?_
      go_big_quiet_step (fail)
      refine wpQuiet_nil ?_
      refine flowW_end fun wz hwz hF hD => ?_
      clear kd0 kd1 kd2 kd3 kd4 kd5 kd6
      simp only [List.drop_succ_cons, List.drop_zero]
      refine wpList_store_box rfl _ _ rfl rfl rfl (by kernel_rfl) (bx_later hwz HX2.out) rfl rfl rfl rfl ?_
      have HWZ := Lib.hid hwz
      have hbz := bx_row (bx_later hwz HX2.out) #[.int .i64 x0, .int .i64 x1, .int .i64 x2, .int .i64 x3, .int .i64 x4, .int .i64 x5, .int .i64 x6]
      have HRZ := Lib.hid hbz
      have r0 := cell_of_box hbz 0 rfl
      have r1 := cell_of_box hbz 1 rfl
      have r2 := cell_of_box hbz 2 rfl
      have r3 := cell_of_box hbz 3 rfl
      have r4 := cell_of_box hbz 4 rfl
      have r5 := cell_of_box hbz 5 rfl
      have r6 := cell_of_box hbz 6 rfl
      clear hwz hF hD hbz
      go_wp2_with fail
      refine bodyPost_ret (v := .agg #[.int .i64 x0, .int .i64 x1, .int .i64 x2, .int .i64 x3, .int .i64 x4, .int .i64 x5, .int .i64 x6]) (by simp [results, Try.results43, go_sem, r0, r1, r2, r3, r4, r5, r6]) rfl ⟨?_, .inr ⟨_, _, k, HS.out, rfl, hkl, ?_, ?_⟩⟩
      · exact but_row_new ((((But.of_below (S := fun k => k = g) HB1.out).trans HB2.out (fun i _ e => e)).trans (But.of_below (S := fun k => k = g) HWZ.out) (fun i _ e => e))) (Nat.le_refl _) _
      · exact rdr_row (rdr_later HR2.out HWZ.out) (by have := HGW.out; omega) _
      · rfl

set_option maxRecDepth 100000 in
set_option maxHeartbeats 8000000 in
theorem op_any {w0 w : World} {g : Nat} {b : List UInt8} (hr : Rdr w0 w g b) (hb : Below w0.heap.size w0 w) (hg0 : w0.heap.size ≤ g) (hl : b.length ≤ 1000000000) :
    Calls Try.prog 42 #[.pointer (some ⟨g, 0, none⟩)] w (ReadP w0 w g b opD fun w' v x => ∃ a c, v = .agg (OpM.mk x (.slice a x.row.length c)).cs.toArray ∧ w'.ownsRow w.heap.size 87 3 (.slice a x.row.length c) x.row.length (rowCs x.row)) := by
  obtain ⟨a, n, c, hq, hrd, hn⟩ := hr
  have f0 := cell_of_box hq 0 rfl
  have ff := frozen_of_box hq 0
  have HQ := Lib.hid hq
  have HR0 := Lib.hid hrd
  have HR := Lib.hid (hrd.later hb)
  have HN := Lib.hid hn
  have HB := Lib.hid hb
  have hgw : g < w.heap.size := (Array.getElem?_eq_some_iff.1 hq).1
  have hnc : n ≤ c := by obtain ⟨_, _, hv, h1, -, -, -⟩ := id hrd; cases hv; omega
  have hcm : c ≤ maxLen := by obtain ⟨_, _, hv, -, h1, -, -⟩ := id hrd; cases hv; exact h1
  unfold maxLen at hcm
  have HGW := Lib.hid hgw
  have HG0 := Lib.hid hg0
  have hb1 : Below w.heap.size w (w.alloc (.cells #[.int .i64 0, .int .i64 0, .int .i64 0, .int .i64 0, .slice none 0 0, .int .i64 0, .int .i64 0, .string ⟨#[]⟩, .int .i64 0, .int .i64 0, .int .i64 0] 89)) := below_alloc _ _
  have hbx : Bx (w.alloc (.cells #[.int .i64 0, .int .i64 0, .int .i64 0, .int .i64 0, .slice none 0 0, .int .i64 0, .int .i64 0, .string ⟨#[]⟩, .int .i64 0, .int .i64 0, .int .i64 0] 89)) w.heap.size #[.int .i64 0, .int .i64 0, .int .i64 0, .int .i64 0, .slice none 0 0, .int .i64 0, .int .i64 0, .string ⟨#[]⟩, .int .i64 0, .int .i64 0, .int .i64 0] 89 := bx_new rfl
  have hr1 : Rdr w0 (w.alloc (.cells #[.int .i64 0, .int .i64 0, .int .i64 0, .int .i64 0, .slice none 0 0, .int .i64 0, .int .i64 0, .string ⟨#[]⟩, .int .i64 0, .int .i64 0, .int .i64 0] 89)) g b := rdr_later ⟨a, n, c, hq, hrd, hn⟩ hb1
  have hbb := below_then hb hb1
  obtain ⟨w1, hw1⟩ : ∃ w1, w.alloc (.cells #[.int .i64 0, .int .i64 0, .int .i64 0, .int .i64 0, .slice none 0 0, .int .i64 0, .int .i64 0, .string ⟨#[]⟩, .int .i64 0, .int .i64 0, .int .i64 0] 89) = w1 := ⟨_, rfl⟩
  rw [hw1] at hb1 hbx hr1 hbb
  have HW1 := Lib.hid hw1
  have HBX := Lib.hid hbx
  have HB1 := Lib.hid hb1
  have C := Lib.hid (some7_any hr1 hbb hl)
  clear hq hrd hn hb hw1 hr1 hbb hb1 hbx f0 ff hnc hcm hg0
  go_enter Try.func42, Try.ntmps42
  go_wp2_with fail
  rw [HW1.out]
  refine C.out.mono ?_
  rintro e w2 ⟨hb2, hc | hc⟩
  · obtain ⟨hd, rfl⟩ := hc
    have HS : Hid (opD b = none) := by show _ = _; unfold opD mapD seqD; rw [hd]; rfl
    have HB2 := Lib.hid hb2
    clear hd hb2
    go_wp2_with fail
    exact ⟨rfl, (But.of_below HB1.out).trans HB2.out (fun i _ e => e), .inl ⟨HS.out, rfl⟩⟩
  · obtain ⟨v, l, k, hd, rfl, hkl, hr2, av, cv, rfl, hown⟩ := hc
    have hl7 : l.length = 7 := (sevenD_puts.2 _ _ _ hd).1.1
    obtain ⟨x0, x1, x2, x3, x4, x5, x6, rfl⟩ := seven_of hl7
    have HD := Lib.hid hd
    have hrl : Rd w2 (.slice av 7 cv) 7 ([x0, x1, x2, x3, x4, x5, x6].map ic) := Rd.of_own hown
    obtain ⟨A0, A1, A2, A3, A4, A5, A6, i0, i1, i2, i3, i4, i5, i6, d0, d1, d2, d3, d4, d5, d6⟩ := seven_rd hrl
    have HR2 := Lib.hid hr2
    have HB2 := Lib.hid hb2
    have HX2 := Lib.hid (bx_but HBX.out hb2 (by have := HGW.out; omega))
    have hcv : 7 ≤ cv := by obtain ⟨_, _, hv, h1, -, -, -⟩ := id hrl; cases hv; omega
    have hcw : cv ≤ maxLen := by obtain ⟨_, _, hv, -, h1, -, -⟩ := id hrl; cases hv; exact h1
    unfold maxLen at hcw
    clear hd hb2 hown hr2 hrl hl7 C
    go_wp2_with fail
    refine wp_region_flow (by kernel_rfl) 24 [(23, ⟨fun v => ∃ g : Nat, v = .pointer (some ⟨g, 0, none⟩), fun v _ _ w' => ∃ g : Nat, v = .pointer (some ⟨g, 0, none⟩) ∧ Bx w' g #[.int .i64 0, .int .i64 0, .int .i64 0, .int .i64 0, .slice none 0 0, .int .i64 0, .int .i64 0, .string ⟨#[]⟩, .int .i64 0, .int .i64 0, .int .i64 0] 89 ∧ w2.heap.size ≤ g⟩)] (by kernel_rfl) ?_ ?_ ?_
    · intro x hx
      simp only [List.mem_cons, List.not_mem_nil, or_false] at hx
      subst hx
      exact ⟨_, 0, rfl⟩
    · intro x hx v lo hi w w' h hb
      simp only [List.mem_cons, List.not_mem_nil, or_false] at hx
      subst hx
      obtain ⟨g, rfl, h1, h2⟩ := h
      exact ⟨g, rfl, bx_later hb h1, h2⟩
    · intro lo hi
      have kd0 := cell_regrown d0
      have kd1 := cell_regrown d1
      have kd2 := cell_regrown d2
      have kd3 := cell_regrown d3
      have kd4 := cell_regrown d4
      have kd5 := cell_regrown d5
      have kd6 := cell_regrown d6
      refine flowW_plain rfl ?_
      go_big_quiet_step (fail)
      refine wpQuiet_nil ?_
      refine flowW_plain rfl ?_
      go_big_quiet_step (fail)
      refine wpQuiet_nil ?_
      refine flowW_plain rfl ?_
      go_big_quiet_step (fail)
      refine wpQuiet_nil ?_
      refine flowW_plain rfl ?_
      go_big_quiet_step (fail)
      refine wpQuiet_nil ?_
      refine flowW_plain rfl ?_
      go_big_quiet_step (fail)
      refine wpQuiet_nil ?_
      refine flowW_plain rfl ?_
      go_big_quiet_step (fail)
      refine wpQuiet_nil ?_
      refine flowW_plain rfl ?_
      go_big_quiet_step (fail)
      refine wpQuiet_nil ?_
      refine flowW_plain rfl ?_
      go_big_quiet_step (fail)
      refine wpQuiet_nil ?_
      refine flowW_plain rfl ?_
      go_big_quiet_step (fail)
      refine wpQuiet_nil ?_
      refine flowW_plain rfl ?_
      go_big_quiet_step (fail)
      refine wpQuiet_nil ?_
      refine flowW_plain rfl ?_
      go_big_quiet_step (fail)
      refine wpQuiet_nil ?_
      refine flowW_plain rfl ?_
      go_big_quiet_step (fail)
      refine wpQuiet_nil ?_
      refine flowW_plain rfl ?_
      go_big_quiet_step (fail)
      refine wpQuiet_nil ?_
      refine flowW_plain rfl ?_
      go_big_quiet_step (fail)
      refine wpQuiet_nil ?_
      refine flowW_plain rfl ?_
      go_big_quiet_step (fail)
      refine wpQuiet_nil ?_
      refine flowW_plain rfl ?_
      go_big_quiet_step (fail)
      refine wpQuiet_nil ?_
      refine flowW_plain rfl ?_
      go_big_quiet_step (fail)
      refine wpQuiet_nil ?_
      refine flowW_plain rfl ?_
      go_big_quiet_step (fail)
      refine wpQuiet_nil ?_
      refine flowW_plain rfl ?_
      go_big_quiet_step (fail)
      refine wpQuiet_nil ?_
      refine flowW_plain rfl ?_
      go_big_quiet_step (fail)
      refine wpQuiet_nil ?_
      refine flowW_plain rfl ?_
      go_big_quiet_step (fail)
      refine wpQuiet_nil ?_
      refine flowW_plain rfl ?_
      go_big_quiet_step (fail)
      refine wpQuiet_nil ?_
      refine flowW_plain rfl ?_
      go_big_quiet_step (fail)
      refine wpQuiet_nil ?_
      refine flowW_call rfl rfl ?_ ?_
      · intro W hW hF K hK
        clear kd0 kd1 kd2 kd3 kd4 kd5 kd6
        go_wp2_with fail
        exact hK _ _ ⟨_, rfl⟩ ⟨_, rfl, bx_new rfl, hW.size⟩ (below_alloc _ _)
      rintro v ⟨g23, rfl⟩ K hK
      go_simp
      refine hK _ ?_
      clear hK K
      refine flowW_end fun wz hwz hF hD => ?_
      clear kd0 kd1 kd2 kd3 kd4 kd5 kd6
      simp only [List.drop_succ_cons, List.drop_zero]
      obtain ⟨_, he, bg, hgg⟩ := hF 23
      cases he
      refine wpList_store_box rfl _ _ rfl rfl rfl (by kernel_rfl) bg rfl rfl rfl rfl ?_
      have hlt2 : w.heap.size < w2.heap.size := (Array.getElem?_eq_some_iff.1 HX2.out).1
      have hba : Bx (wz.setRow g23 #[.int .i64 x0, .int .i64 x1, .int .i64 x2, .int .i64 x3, .slice none 0 0, .int .i64 0, .int .i64 0, .string ⟨#[]⟩, .int .i64 x4, .int .i64 x5, .int .i64 x6]) g23 #[.int .i64 x0, .int .i64 x1, .int .i64 x2, .int .i64 x3, .slice none 0 0, .int .i64 0, .int .i64 0, .string ⟨#[]⟩, .int .i64 x4, .int .i64 x5, .int .i64 x6] 89 := bx_row bg _
      have hxa : Bx (wz.setRow g23 #[.int .i64 x0, .int .i64 x1, .int .i64 x2, .int .i64 x3, .slice none 0 0, .int .i64 0, .int .i64 0, .string ⟨#[]⟩, .int .i64 x4, .int .i64 x5, .int .i64 x6]) w.heap.size #[.int .i64 0, .int .i64 0, .int .i64 0, .int .i64 0, .slice none 0 0, .int .i64 0, .int .i64 0, .string ⟨#[]⟩, .int .i64 0, .int .i64 0, .int .i64 0] 89 := bx_row_other (bx_later hwz HX2.out) (by omega) _
      have hra : Rdr w0 (wz.setRow g23 #[.int .i64 x0, .int .i64 x1, .int .i64 x2, .int .i64 x3, .slice none 0 0, .int .i64 0, .int .i64 0, .string ⟨#[]⟩, .int .i64 x4, .int .i64 x5, .int .i64 x6]) g (b.drop k) := rdr_row (rdr_later HR2.out hwz) (by have := HGW.out; omega) _
      have hbt : But (fun k => k = g) w (wz.setRow g23 #[.int .i64 x0, .int .i64 x1, .int .i64 x2, .int .i64 x3, .slice none 0 0, .int .i64 0, .int .i64 0, .string ⟨#[]⟩, .int .i64 x4, .int .i64 x5, .int .i64 x6]) := but_row_new (((But.of_below (S := fun k => k = g) HB1.out).trans HB2.out (fun i _ e => e)).trans (But.of_below (S := fun k => k = g) hwz) (fun i _ e => e)) (by omega) _
      have hgg1 : w.heap.size < g23 := by omega
      clear bg hgg hF hD hwz hlt2 d0 i0 d1 i1 d2 i2 d3 i3 d4 i4 d5 i5 d6 i6
      go_upto_region 3 with fail
      generalize wz.setRow g23 #[.int .i64 x0, .int .i64 x1, .int .i64 x2, .int .i64 x3, .slice none 0 0, .int .i64 0, .int .i64 0, .string ⟨#[]⟩, .int .i64 x4, .int .i64 x5, .int .i64 x6] = wa at hba hxa hra hbt ⊢
      have hbw : Below w0.heap.size w0 wa := HB.out.trans (hbt.below (B := w0.heap.size) HB.out.size (fun k e => by subst e; exact HG0.out))
      have HBA := Lib.hid hba
      have HXA := Lib.hid hxa
      have HBT := Lib.hid hbt
      have hl1 : (b.drop k).length ≤ 1000000000 := by rw [List.length_drop]; omega
      obtain ⟨a1, n1, c1, hq1, hrd1, hn1⟩ := id hra
      have HR1 := Lib.hid (hrd1.later hbw)
      have HN1 := Lib.hid hn1
      have HQ1 := Lib.hid hq1
      have hnc1 : n1 ≤ c1 := by obtain ⟨_, _, hv, h1, -, -, -⟩ := id hrd1; cases hv; omega
      have hcm1 : c1 ≤ maxLen := by obtain ⟨_, _, hv, -, h1, -, -⟩ := id hrd1; cases hv; exact h1
      unfold maxLen at hcm1
      have f1 := cell_of_box hq1 0 rfl
      have HBW := Lib.hid hbw
      clear hba hxa hra hbt hbw
      cases hgr : getR (b.drop k) with
      | none =>
        have HG := Lib.hid hgr
        have HS : Hid (opD b = none) := by show _ = _; unfold opD mapD seqD; rw [HD.out]; simp only [hgr]; rfl
        clear hgr hq1 hrd1 hn1
        go_wp2_with fail
        refine (rowGet_no HR1.out HN1.out hl1 HG.out).mono ?_
        rintro e w4 ⟨rfl, hb4⟩
        have HB4 := Lib.hid hb4
        clear hb4
        go_wp2_with fail
        refine (must_false _ _).mono ?_
        rintro e w9 ⟨rfl, rfl⟩
        go_wp2_with fail
        exact ⟨rfl, HBT.out.trans (But.of_below HB4.out) (fun i _ e => e), .inl ⟨HS.out, rfl⟩⟩
      | some p =>
        obtain ⟨r, k1⟩ := p
        have HG := Lib.hid hgr
        have hk1 := (getL_takes getVal_takes _ _ _ hgr).2
        obtain ⟨as1, cs1, hsl1, hrs1⟩ := run_part_lo elB hrd1 (by simp [hn1]) k1 (by omega)
        rw [Nat.mul_one, ← List.map_drop] at hrs1
        have HRS1 := Lib.hid hrs1
        have HLS1 : Hid (n1 - k1 = ((b.drop k).drop k1).length) := by show _ = _; rw [List.length_drop, hn1]
        have hkn1 : k1 ≤ n1 := by omega
        clear hgr hq1 hrd1 hn1 hrs1
        go_wp2_with fail
        refine (rowGet_yes HR1.out HN1.out hl1 HG.out).mono ?_
        rintro e w4 ⟨ar, cr, rfl, hown4, hb4⟩
        have k0 := cell_of_box (bx_later hb4 HQ1.out) 0 rfl
        have kf := frozen_of_box (bx_later hb4 HQ1.out) 0
        have HB4 := Lib.hid hb4
        have HO4 := Lib.hid hown4
        clear hb4 hown4 f1
        go_wp2_with fail
        refine (must_true _ _).mono ?_
        rintro e w9 ⟨rfl, rfl⟩
        go_upto_region 6 with fail
        obtain ⟨w5, hw5⟩ : ∃ w5, w4.setCell ⟨g, 0, none⟩ (.slice as1 (n1 - k1) cs1) = w5 := ⟨_, rfl⟩
        rw [hw5]
        have hq5 : Rdr w0 w5 g ((b.drop k).drop k1) := by rw [← hw5]; exact rdr_set (bx_later HB4.out HQ1.out) HRS1.out HLS1.out
        have hbt5 : But (fun k => k = g) w w5 := by rw [← hw5]; exact (HBT.out.trans (But.of_below (S := fun k => k = g) HB4.out) (fun i _ e => e)).set (a := ⟨g, 0, none⟩) rfl _
        have hxa5 : Bx w5 w.heap.size #[.int .i64 0, .int .i64 0, .int .i64 0, .int .i64 0, .slice none 0 0, .int .i64 0, .int .i64 0, .string ⟨#[]⟩, .int .i64 0, .int .i64 0, .int .i64 0] 89 := by rw [← hw5]; exact bx_set_other (bx_later HB4.out HXA.out) (by have := HGW.out; omega) 0 _
        have hba5 : Bx w5 g23 #[.int .i64 x0, .int .i64 x1, .int .i64 x2, .int .i64 x3, .slice none 0 0, .int .i64 0, .int .i64 0, .string ⟨#[]⟩, .int .i64 x4, .int .i64 x5, .int .i64 x6] 89 := by rw [← hw5]; exact bx_set_other (bx_later HB4.out HBA.out) (by have := HGW.out; omega) 0 _
        have ho5 : w5.ownsRow w.heap.size 87 3 (.slice ar r.length cr) r.length (rowCs r) := by rw [← hw5]; exact own_setq (own_mono0 HO4.out HBT.out.size) HGW.out 0 _
        have hbw5 : Below w0.heap.size w0 w5 := HB.out.trans (hbt5.below (B := w0.heap.size) HB.out.size (fun k e => by subst e; exact HG0.out))
        have HBA5 := Lib.hid hba5
        have HXA5 := Lib.hid hxa5
        have HBT5 := Lib.hid hbt5
        have HO5 := Lib.hid ho5
        have hl5 : ((b.drop k).drop k1).length ≤ 1000000000 := by rw [List.length_drop]; omega
        clear k0 kf hw5
        obtain ⟨a5, n5, c5, hq5, hrd5, hn5⟩ := id hq5
        have HR5 := Lib.hid (hrd5.later hbw5)
        have HN5 := Lib.hid hn5
        have HQ5 := Lib.hid hq5
        have hnc5 : n5 ≤ c5 := by obtain ⟨_, _, hv, h1, -, -, -⟩ := id hrd5; cases hv; omega
        have hcm5 : c5 ≤ maxLen := by obtain ⟨_, _, hv, -, h1, -, -⟩ := id hrd5; cases hv; exact h1
        unfold maxLen at hcm5
        have f5 := cell_of_box hq5 0 rfl
        clear hba5 hxa5 hbt5 ho5 hbw5
        cases hgv : getVal ((b.drop k).drop k1) with
        | none =>
          have HV := Lib.hid hgv
          have HS : Hid (opD b = none) := by show _ = _; unfold opD mapD seqD; rw [HD.out]; simp only [HG.out, hgv]; rfl
          clear hgv hq5 hrd5 hn5
          go_wp2_with fail
          refine (getVal_no HR5.out HN5.out HV.out).mono ?_
          rintro e w6 ⟨rfl, hb6⟩
          have HB6 := Lib.hid hb6
          clear hb6
          go_wp2_with fail
          refine (must_false _ _).mono ?_
          rintro e w9 ⟨rfl, rfl⟩
          go_wp2_with fail
          exact ⟨rfl, HBT5.out.trans (But.of_below (below_then HB6.out (below_alloc _ _))) (fun i _ e => e), .inl ⟨HS.out, rfl⟩⟩
        | some q =>
          obtain ⟨v, k2⟩ := q
          have HV := Lib.hid hgv
          have hk2 := (getVal_takes _ _ _ hgv).2
          obtain ⟨as5, cs5, hsl5, hrs5⟩ := run_part_lo elB hrd5 (by simp [hn5]) k2 (by omega)
          rw [Nat.mul_one, ← List.map_drop] at hrs5
          have HRS5 := Lib.hid hrs5
          have HLS5 : Hid (n5 - k2 = (((b.drop k).drop k1).drop k2).length) := by show _ = _; rw [List.length_drop, hn5]
          have hkn5 : k2 ≤ n5 := by omega
          have HS : Hid (opD b = some (opOf ([x0, x1, x2, x3, x4, x5, x6], (r, v)), k + (k1 + k2))) := by show _ = _; unfold opD mapD seqD; rw [HD.out]; simp only [HG.out, hgv]; rfl
          clear hgv hq5 hrd5 hn5 hrs5
          go_wp2_with fail
          refine (getVal_yes HR5.out HN5.out HV.out).mono ?_
          rintro e w6 ⟨rfl, hb6⟩
          have HB6 := Lib.hid hb6
          clear hb6
          go_wp2_with fail
          obtain ⟨w7, hw7⟩ : ∃ w7, w6.alloc (.cells #[.int .i64 v.k, .int .i64 v.n, .string v.s] 87) = w7 := ⟨_, rfl⟩
          have hb7 : Below w5.heap.size w5 w7 := by rw [← hw7]; exact below_then HB6.out (below_alloc _ _)
          have hv7 : Bx w7 w6.heap.size #[.int .i64 v.k, .int .i64 v.n, .string v.s] 87 := by rw [← hw7]; exact bx_new rfl
          rw [hw7]
          have hg8 : w.heap.size < w6.heap.size := Nat.lt_of_lt_of_le (Array.getElem?_eq_some_iff.1 HXA5.out).1 HB6.out.size
          generalize w6.heap.size = g8 at hv7 hg8 ⊢
          have k0 := cell_of_box (bx_later hb7 HQ5.out) 0 rfl
          have kf := frozen_of_box (bx_later hb7 HQ5.out) 0
          have HB7 := Lib.hid hb7
          have HV7 := Lib.hid hv7
          clear hb7 hv7 hw7 f5
          refine (must_true _ _).mono ?_
          rintro e w9 ⟨rfl, rfl⟩
          go_upto_region 9 with fail
          obtain ⟨w8, hw8⟩ : ∃ w8, w7.setCell ⟨g, 0, none⟩ (.slice as5 (n5 - k2) cs5) = w8 := ⟨_, rfl⟩
          rw [hw8]
          have hq8 : Rdr w0 w8 g (((b.drop k).drop k1).drop k2) := by rw [← hw8]; exact rdr_set (bx_later HB7.out HQ5.out) HRS5.out HLS5.out
          have hbt8 : But (fun k => k = g) w w8 := by rw [← hw8]; exact (HBT5.out.trans (But.of_below (S := fun k => k = g) HB7.out) (fun i _ e => e)).set (a := ⟨g, 0, none⟩) rfl _
          have hxa8 : Bx w8 w.heap.size #[.int .i64 0, .int .i64 0, .int .i64 0, .int .i64 0, .slice none 0 0, .int .i64 0, .int .i64 0, .string ⟨#[]⟩, .int .i64 0, .int .i64 0, .int .i64 0] 89 := by rw [← hw8]; exact bx_set_other (bx_later HB7.out HXA5.out) (by have := HGW.out; omega) 0 _
          have hba8 : Bx w8 g23 #[.int .i64 x0, .int .i64 x1, .int .i64 x2, .int .i64 x3, .slice none 0 0, .int .i64 0, .int .i64 0, .string ⟨#[]⟩, .int .i64 x4, .int .i64 x5, .int .i64 x6] 89 := by rw [← hw8]; exact bx_set_other (bx_later HB7.out HBA5.out) (by have := HGW.out; omega) 0 _
          have hva8 : Bx w8 g8 #[.int .i64 v.k, .int .i64 v.n, .string v.s] 87 := by rw [← hw8]; exact bx_set_other HV7.out (by have := HGW.out; omega) 0 _
          have ho8 : w8.ownsRow w.heap.size 87 3 (.slice ar r.length cr) r.length (rowCs r) := by rw [← hw8]; exact own_setq (own_later HO5.out HB7.out) HGW.out 0 _
          have HQ8 := Lib.hid hq8
          have HBA8 := Lib.hid hba8
          have HXA8 := Lib.hid hxa8
          have HBT8 := Lib.hid hbt8
          have HO8 := Lib.hid ho8
          have v0 := cell_of_box hva8 0 rfl
          have v1 := cell_of_box hva8 1 rfl
          have v2 := cell_of_box hva8 2 rfl
          have y0 := cell_of_box hba8 0 rfl
          have z0 := frozen_of_box hba8 0
          have y1 := cell_of_box hba8 1 rfl
          have z1 := frozen_of_box hba8 1
          have y2 := cell_of_box hba8 2 rfl
          have z2 := frozen_of_box hba8 2
          have y3 := cell_of_box hba8 3 rfl
          have z3 := frozen_of_box hba8 3
          have y4 := cell_of_box hba8 4 rfl
          have z4 := frozen_of_box hba8 4
          have y5 := cell_of_box hba8 5 rfl
          have z5 := frozen_of_box hba8 5
          have y6 := cell_of_box hba8 6 rfl
          have z6 := frozen_of_box hba8 6
          have y7 := cell_of_box hba8 7 rfl
          have z7 := frozen_of_box hba8 7
          have y8 := cell_of_box hba8 8 rfl
          have z8 := frozen_of_box hba8 8
          have y9 := cell_of_box hba8 9 rfl
          have z9 := frozen_of_box hba8 9
          have y10 := cell_of_box hba8 10 rfl
          have z10 := frozen_of_box hba8 10
          clear k0 kf hw8 hq8 hbt8 hxa8 hba8 hva8 ho8
          go_region
          go_upto_region 10 with fail
          clear y0 z0 y1 z1 y2 z2 y3 z3 y4 z4 y5 z5 y6 z6 y7 z7 y8 z8 y9 z9 y10 z10 v0 v1 v2
          obtain ⟨w9, hw9⟩ : ∃ w9, ((((w8.setCell ⟨g23, 4, none⟩ (.slice ar r.length cr)).setCell ⟨g23, 5, none⟩ (.int .i64 v.k)).setCell ⟨g23, 6, none⟩ (.int .i64 v.n)).setCell ⟨g23, 7, none⟩ (.string v.s)).drew = w9 := ⟨_, rfl⟩
          rw [hw9]
          have hbq : But (fun k => k = g23) w8 w9 := by rw [← hw9]; exact (((((But.refl (fun k => k = g23) w8).set (a := ⟨g23, 4, none⟩) rfl _).set (a := ⟨g23, 5, none⟩) rfl _).set (a := ⟨g23, 6, none⟩) rfl _).set (a := ⟨g23, 7, none⟩) rfl _).drew
          have hbx9 : Bx w9 g23 #[.int .i64 x0, .int .i64 x1, .int .i64 x2, .int .i64 x3, .slice ar r.length cr, .int .i64 v.k, .int .i64 v.n, .string v.s, .int .i64 x4, .int .i64 x5, .int .i64 x6] 89 := by rw [← hw9]; exact bx_set (bx_set (bx_set (bx_set HBA8.out 4 _) 5 _) 6 _) 7 _
          clear hw9
          have hxa9 : Bx w9 w.heap.size #[.int .i64 0, .int .i64 0, .int .i64 0, .int .i64 0, .slice none 0 0, .int .i64 0, .int .i64 0, .string ⟨#[]⟩, .int .i64 0, .int .i64 0, .int .i64 0] 89 := hbq.blk HXA8.out (by omega)
          have ho9 : w9.ownsRow w.heap.size 87 3 (.slice ar r.length cr) r.length (rowCs r) := own_but HO8.out hbq (fun k hk e => own_ne_bx HO8.out HBA8.out rfl (by rw [hk, e]))
          have hq9 : Rdr w0 w9 g (((b.drop k).drop k1).drop k2) := by
            obtain ⟨a', n', c', h1, h2, h3⟩ := HQ8.out
            exact ⟨a', n', c', hbq.blk h1 (by have := HGW.out; omega), h2, h3⟩
          have hbt9 : But (fun k => k = g) w w9 := HBT8.out.trans hbq (fun i hi e => by omega)
          have y0 := cell_of_box hbx9 0 rfl
          have y1 := cell_of_box hbx9 1 rfl
          have y2 := cell_of_box hbx9 2 rfl
          have y3 := cell_of_box hbx9 3 rfl
          have y4 := cell_of_box hbx9 4 rfl
          have y5 := cell_of_box hbx9 5 rfl
          have y6 := cell_of_box hbx9 6 rfl
          have y7 := cell_of_box hbx9 7 rfl
          have y8 := cell_of_box hbx9 8 rfl
          have y9 := cell_of_box hbx9 9 rfl
          have y10 := cell_of_box hbx9 10 rfl
          have HXA9 := Lib.hid hxa9
          have HO9 := Lib.hid ho9
          have HQ9 := Lib.hid hq9
          have HBT9 := Lib.hid hbt9
          have HBX9 := Lib.hid hbx9
          clear hbq hbx9 hxa9 ho9 hq9 hbt9
          go_wp2_with (refine wpList_store_box rfl _ _ rfl rfl rfl (by kernel_rfl) HXA9.out rfl rfl rfl rfl ?_)
          have hbz := bx_row HXA9.out #[.int .i64 x0, .int .i64 x1, .int .i64 x2, .int .i64 x3, .slice ar r.length cr, .int .i64 v.k, .int .i64 v.n, .string v.s, .int .i64 x4, .int .i64 x5, .int .i64 x6]
          have r0 := cell_of_box hbz 0 rfl
          have r1 := cell_of_box hbz 1 rfl
          have r2 := cell_of_box hbz 2 rfl
          have r3 := cell_of_box hbz 3 rfl
          have r4 := cell_of_box hbz 4 rfl
          have r5 := cell_of_box hbz 5 rfl
          have r6 := cell_of_box hbz 6 rfl
          have r7 := cell_of_box hbz 7 rfl
          have r8 := cell_of_box hbz 8 rfl
          have r9 := cell_of_box hbz 9 rfl
          have r10 := cell_of_box hbz 10 rfl
          clear hbz
          refine bodyPost_ret (v := .agg #[.int .i64 x0, .int .i64 x1, .int .i64 x2, .int .i64 x3, .slice ar r.length cr, .int .i64 v.k, .int .i64 v.n, .string v.s, .int .i64 x4, .int .i64 x5, .int .i64 x6]) (by simp [results, Try.results42, go_sem, r0, r1, r2, r3, r4, r5, r6, r7, r8, r9, r10]) rfl ⟨?_, .inr ⟨_, _, k + (k1 + k2), HS.out, rfl, ?_, ?_, ar, cr, rfl, ?_⟩⟩
          · exact but_row_new HBT9.out (Nat.le_refl _) _
          · rw [List.length_drop] at hk1 hk2
            rw [List.length_drop] at hk2
            omega
          · have := rdr_row HQ9.out (q := w.heap.size) (by have := HGW.out; omega) #[.int .i64 x0, .int .i64 x1, .int .i64 x2, .int .i64 x3, .slice ar r.length cr, .int .i64 v.k, .int .i64 v.n, .string v.s, .int .i64 x4, .int .i64 x5, .int .i64 x6]
            rw [List.drop_drop, List.drop_drop] at this
            exact this
          · exact own_row HO9.out HXA9.out rfl _
end Go.Proofs.Ytliokkoalkhpaaa
