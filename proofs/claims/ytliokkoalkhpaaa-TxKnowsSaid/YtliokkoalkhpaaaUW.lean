/-
  Layer 17 (tx): Parse. (printed by tools/gen_uw.py)
-/
import Derived.Test.YtliokkoalkhpaaaUV
namespace Go.Proofs.Ytliokkoalkhpaaa
open Go.RowKit Go.Sort Go.BigFrame
attribute [local irreducible] FlowW

theorem ownOps_but {w w' : World} {g B : Nat} {v : Value} {ms : List OpM} (h : OwnOps w B v ms) (hb : But (fun k => k = g) w w') (hg : g < B) : OwnOps w' B v ms :=
  ⟨own_but h.1 hb (fun q hq e => own_g h.1 hg (by rw [hq, e])), fun m hm => own_but (h.2 m hm) hb (fun q hq e => own_g (h.2 m hm) hg (by rw [hq, e]))⟩
/-- What Parse leaves. -/
def ParseP (w : World) (b : List UInt8) (e : Ending) (w' : World) : Prop :=
  Below w.heap.size w w' ∧ ((parseT b = none ∧ e = .returned (.tuple #[.agg #[.int .i64 0, .int .i64 0, .int .i64 0, .slice none 0 0, .slice none 0 0, .slice none 0 0, .bool false, .slice none 0 0, .int .i64 0, .int .i64 0, .int .i64 0], .int .i64 3])) ∨ ∃ t : TxM, parseT b = some t.tx ∧ e = .returned (.tuple #[t.agg, .int .i64 0]) ∧ t.Reads w')

set_option maxRecDepth 100000 in
set_option maxHeartbeats 16000000 in
theorem parse_any (v : Value) (b : List UInt8) (w : World) (h : Rd w v b.length (b.map bc)) (hl : b.length ≤ 1000000000) :
    Calls Try.prog 21 #[v] w (ParseP w b) := by
  obtain ⟨a, c, hv, -, hcm, -, -⟩ := id h
  subst hv
  obtain ⟨n, hn⟩ : ∃ n, b.length = n := ⟨_, rfl⟩
  rw [hn] at h hl ⊢
  have hmf : ∀ (fn : Fn) (first cap : Array Value) (w : World), (Instr.makeFunc fn first cap).run Try.prog w = .ok (.func fn first cap) w := fun _ _ _ _ => rfl
  obtain ⟨wA, hwA⟩ : ∃ wA, ((w.alloc (.cells #[.int .i64 0, .int .i64 0, .int .i64 0, .slice none 0 0, .slice none 0 0, .slice none 0 0, .bool false, .slice none 0 0, .int .i64 0, .int .i64 0, .int .i64 0] 27)).alloc (.cells #[.int .i64 0] 40)).alloc (.cells #[.slice a n c] 77) = wA := ⟨_, rfl⟩
  have hbA : Below w.heap.size w wA := by rw [← hwA]; exact below_then (below_alloc _ _) (below_then (below_alloc _ _) (below_alloc _ _))
  have hpA : Bx wA w.heap.size #[.int .i64 0, .int .i64 0, .int .i64 0, .slice none 0 0, .slice none 0 0, .slice none 0 0, .bool false, .slice none 0 0, .int .i64 0, .int .i64 0, .int .i64 0] 27 := by rw [← hwA]; exact bx_later (below_then (below_alloc _ _) (below_alloc _ _)) (bx_new rfl)
  have hqA : Bx wA (w.heap.size + 1) #[.int .i64 0] 40 := by rw [← hwA]; exact bx_later (below_alloc _ _) (bx_new (by simp))
  have hgA : Bx wA (w.heap.size + 1 + 1) #[.slice a n c] 77 := by rw [← hwA]; exact bx_new (by simp)
  have hrA : Rdr w wA (w.heap.size + 1 + 1) b := ⟨a, n, c, hgA, h, hn.symm⟩
  have hsA : w.heap.size + 3 ≤ wA.heap.size := by have := (Array.getElem?_eq_some_iff.1 hgA).1; omega
  have hlb : b.length ≤ 1000000000 := by omega
  have HWA := Lib.hid hwA
  have HB0 := Lib.hid hbA
  have HP0 := Lib.hid hpA
  have HQ0 := Lib.hid hqA
  have C1 := Lib.hid (some7_any hrA hbA hlb)
  clear h hcm hwA hbA hpA hqA hgA hrA
  go_enter_defers Try.func21, Try.ntmps21
  go_wp2_with fail
  rw [HWA.out]
  refine C1.out.mono ?_
  rintro e w1 ⟨hb1, hc | hc⟩
  · obtain ⟨hd, rfl⟩ := hc
    have HB1 := Lib.hid (HB0.out.trans (hb1.below (B := w.heap.size) HB0.out.size (fun k e => by subst e; omega)))
    have HP1 := Lib.hid (bx_but HP0.out hb1 (by omega))
    have HQ1 := Lib.hid (bx_but HQ0.out hb1 (by omega))
    have HS : Hid (parseT b = none) := parse_no1 hd
    clear hd hb1 C1
    go_wp2_with fail
    exact door_panic HP1.out rfl HQ1.out (by omega) (by rfl) (by rfl) (fun w' hbt => ⟨HB1.out.trans (hbt.below (B := w.heap.size) HB1.out.size (fun k e => by rcases e with e | e <;> omega)), .inl ⟨HS.out, rfl⟩⟩)
  · obtain ⟨v1, l, k1, hd1, rfl, hk1, hr1, av, cv, rfl, hown1⟩ := hc
    have hl7 : l.length = 7 := (sevenD_puts.2 _ _ _ hd1).1.1
    obtain ⟨x0, x1, x2, x3, x4, x5, x6, rfl⟩ := seven_of hl7
    have HB1 := Lib.hid (HB0.out.trans (hb1.below (B := w.heap.size) HB0.out.size (fun k e => by subst e; omega)))
    have HP1 := Lib.hid (bx_but HP0.out hb1 (by omega))
    have HQ1 := Lib.hid (bx_but HQ0.out hb1 (by omega))
    have hrl : Rd w1 (.slice av 7 cv) 7 ([x0, x1, x2, x3, x4, x5, x6].map ic) := Rd.of_own hown1
    obtain ⟨A0, A1, A2, A3, A4, A5, A6, i0, i1, i2, i3, i4, i5, i6, d0, d1, d2, d3, d4, d5, d6⟩ := seven_rd hrl
    have HOL1 := Lib.hid hown1
    have HR1 := Lib.hid hr1
    have hcv : 7 ≤ cv := by obtain ⟨_, _, hv, h1, -, -, -⟩ := id hrl; cases hv; omega
    have hcw : cv ≤ maxLen := by obtain ⟨_, _, hv, -, h1, -, -⟩ := id hrl; cases hv; exact h1
    unfold maxLen at hcw
    have HS1 := Lib.hid hd1
    have hs1 := hb1.size
    clear hd1 hb1 hown1 hr1 hrl hl7 C1
    cases hi : inQ3 x3 0 1
    · have HI := Lib.hid hi
      have hin : ¬ (0 ≤ x3 ∧ x3 ≤ 1) := fun hh => by unfold inQ3 at hi; rw [decide_eq_true hh.1, decide_eq_true hh.2] at hi; cases hi
      have HIN := Lib.hid hin
      clear hi hin
      go_wp2_with fail
      refine (txIn_b false HI.out).mono ?_
      rintro e w9 ⟨rfl, rfl⟩
      go_wp2_with fail
      refine (must_false _ _).mono ?_
      rintro e w9 ⟨rfl, rfl⟩
      have HS : Hid (parseT b = none) := parse_no2 HS1.out HIN.out
      clear d0 d1 d2 d3 d4 d5 d6
      go_wp2_with fail
      exact door_panic HP1.out rfl HQ1.out (by omega) (by rfl) (by rfl) (fun w' hbt => ⟨HB1.out.trans (hbt.below (B := w.heap.size) HB1.out.size (fun k e => by rcases e with e | e <;> omega)), .inl ⟨HS.out, rfl⟩⟩)
    · have HI := Lib.hid hi
      have hin : 0 ≤ x3 ∧ x3 ≤ 1 := by unfold inQ3 at hi; rw [Bool.and_eq_true, decide_eq_true_eq, decide_eq_true_eq] at hi; exact hi
      have HD1 := Lib.hid (headD_yes HS1.out hin)
      obtain ⟨fb, hfb⟩ : ∃ fb, (x3 == 1) = fb := ⟨_, rfl⟩
      have HFB := Lib.hid hfb
      clear hi hin
      go_wp2_with fail
      refine (txIn_b true HI.out).mono ?_
      rintro e w9 ⟨rfl, rfl⟩
      go_wp2_with fail
      refine (must_true _ _).mono ?_
      rintro e w9 ⟨rfl, rfl⟩
      have C2 := Lib.hid (someAny_any HR1.out HB1.out (by rw [List.length_drop]; omega))
      clear d0 i0 d1 i1 d2 i2 d3 i3 d4 i4 d5 i5 d6 i6
      go_wp2_with fail
      refine C2.out.mono ?_
      rintro e w2 ⟨hb2, hc | hc⟩
      · obtain ⟨hd, rfl⟩ := hc
        have HB2 := Lib.hid (HB1.out.trans (hb2.below (B := w.heap.size) HB1.out.size (fun k e => by subst e; omega)))
        have HP2 := Lib.hid (bx_but HP1.out hb2 (by omega))
        have HQ2 := Lib.hid (bx_but HQ1.out hb2 (by omega))
        have HS : Hid (parseT b = none) := parse_no3 HD1.out (depsD_no hd)
        clear hd hb2 C2
        go_wp2_with fail
        exact door_panic HP2.out rfl HQ2.out (by omega) (by rfl) (by rfl) (fun w' hbt => ⟨HB2.out.trans (hbt.below (B := w.heap.size) HB2.out.size (fun k e => by rcases e with e | e <;> omega)), .inl ⟨HS.out, rfl⟩⟩)
      · obtain ⟨v2, ds, k2, hd2, rfl, hk2, hr2, av2, cv2, rfl, hown2⟩ := hc
        have HB2 := Lib.hid (HB1.out.trans (hb2.below (B := w.heap.size) HB1.out.size (fun k e => by subst e; omega)))
        have HP2 := Lib.hid (bx_but HP1.out hb2 (by omega))
        have HQ2 := Lib.hid (bx_but HQ1.out hb2 (by omega))
        have HOL2 := Lib.hid (own_but HOL1.out hb2 (fun q hq e => own_g (g := w.heap.size + 1 + 1) HOL1.out (by omega) (by rw [hq, e])))
        have HR2 := Lib.hid hr2
        obtain ⟨nd, hnd⟩ : ∃ nd, ds.length = nd := ⟨_, rfl⟩
        have hrd2 : Rd w2 (.slice av2 ds.length cv2) ds.length (ds.map ic) := Rd.of_own hown2
        rw [hnd] at hown2 hrd2 ⊢
        have HO2 := Lib.hid (own_mono0 hown2 hs1)
        have HND := Lib.hid hnd
        have HRD2 := Lib.hid hrd2
        have HS2 := Lib.hid hd2
        have hcd : nd ≤ cv2 := by obtain ⟨_, _, hv, h1, -, -, -⟩ := id hrd2; cases hv; omega
        have hcx : cv2 ≤ maxLen := by obtain ⟨_, _, hv, -, h1, -, -⟩ := id hrd2; cases hv; exact h1
        unfold maxLen at hcx
        have hs2 := hb2.size
        clear hd2 hb2 hown2 hr2 hnd hrd2 C2
        rcases Nat.eq_zero_or_pos nd with h0 | h0
        · have HD2 : Hid (depsD (b.drop k1) = some (ds, k2)) := depsD_yes HS2.out (by rw [List.eq_nil_of_length_eq_zero (HND.out.trans h0)]; simp)
          have e0 : ((nd : Int) == 0) = true := by simp [h0]
          clear h0
          go_wp2_with fail
          refine (must_true _ _).mono ?_
          rintro e w9 ⟨rfl, rfl⟩
          go_upto_region 7 with fail
          have hrl : Rd w2 (.slice av 7 cv) 7 ([x0, x1, x2, x3, x4, x5, x6].map ic) := Rd.of_own HOL2.out
          obtain ⟨A0, A1, A2, A3, A4, A5, A6, i0, i1, i2, i3, i4, i5, i6, d0, d1, d2, d3, d4, d5, d6⟩ := seven_rd hrl
          clear hrl
          refine wp_region_flow (by kernel_rfl) 24 [] (by kernel_rfl) ?_ ?_ ?_
          · intro x hx; cases hx
          · intro x hx; cases hx
          · intro lo hi
            have kd0 := cell_regrown d0
            have kd1 := cell_regrown d1
            have kd2 := cell_regrown d2
            have kd3 := cell_regrown d3
            have kd4 := cell_regrown d4
            have kd5 := cell_regrown d5
            have kd6 := cell_regrown d6
            refine flowW_plain rfl ?_
            go_big_quiet_step (fail)
            refine wpQuiet_nil ?_
            refine flowW_plain rfl ?_
            go_big_quiet_step (fail)
            refine wpQuiet_nil ?_
            refine flowW_plain rfl ?_
            go_big_quiet_step (fail)
            refine wpQuiet_nil ?_
            refine flowW_plain rfl ?_
            go_big_quiet_step (fail)
            refine wpQuiet_nil ?_
            refine flowW_plain rfl ?_
            go_big_quiet_step (fail)
            refine wpQuiet_nil ?_
            refine flowW_plain rfl ?_
            go_big_quiet_step (fail)
            refine wpQuiet_nil ?_
            refine flowW_plain rfl ?_
            go_big_quiet_step (fail)
            refine wpQuiet_nil ?_
            refine flowW_plain rfl ?_
            go_big_quiet_step (fail)
            refine wpQuiet_nil ?_
            refine flowW_plain rfl ?_
            go_big_quiet_step (fail)
            refine wpQuiet_nil ?_
            refine flowW_plain rfl ?_
            go_big_quiet_step (fail)
            refine wpQuiet_nil ?_
            refine flowW_plain rfl ?_
            go_big_quiet_step (fail)
            refine wpQuiet_nil ?_
            refine flowW_plain rfl ?_
            go_big_quiet_step (fail)
            refine wpQuiet_nil ?_
            refine flowW_plain rfl ?_
            go_big_quiet_step (fail)
            refine wpQuiet_nil ?_
            refine flowW_plain rfl ?_
            go_big_quiet_step (fail)
            refine wpQuiet_nil ?_
            refine flowW_plain rfl ?_
            go_big_quiet_step (fail)
            refine wpQuiet_nil ?_
            refine flowW_plain rfl ?_
            go_big_quiet_step (fail)
            refine wpQuiet_nil ?_
            refine flowW_plain rfl ?_
            go_big_quiet_step (fail)
            refine wpQuiet_nil ?_
            refine flowW_plain rfl ?_
            go_big_quiet_step (fail)
            refine wpQuiet_nil ?_
            refine flowW_plain rfl ?_
            go_big_quiet_step (fail)
            refine wpQuiet_nil ?_
            refine flowW_plain rfl ?_
            go_big_quiet_step (fail)
            refine wpQuiet_nil ?_
            refine flowW_plain rfl ?_
            go_big_quiet_step (fail)
            refine wpQuiet_nil ?_
            refine flowW_plain rfl ?_
            go_big_quiet_step (fail)
            refine wpQuiet_nil ?_
            refine flowW_plain rfl ?_
            go_big_quiet_step (fail)
            refine wpQuiet_nil ?_
            refine flowW_plain rfl ?_
            go_big_quiet_step (fail)
            refine wpQuiet_nil ?_
            refine flowW_end fun wz hwz hF hD => ?_
            clear kd0 kd1 kd2 kd3 kd4 kd5 kd6
            simp only [List.drop_succ_cons, List.drop_zero]
            refine wpList_store_box rfl _ _ rfl rfl rfl (by kernel_rfl) (bx_later hwz HP2.out) rfl rfl rfl rfl ?_
            have hp3 : Bx (wz.setRow w.heap.size #[.int .i64 x0, .int .i64 x1, .int .i64 x2, .slice av2 nd cv2, .slice none 0 0, .slice none 0 0, .bool fb, .slice none 0 0, .int .i64 x4, .int .i64 x5, .int .i64 x6]) w.heap.size #[.int .i64 x0, .int .i64 x1, .int .i64 x2, .slice av2 nd cv2, .slice none 0 0, .slice none 0 0, .bool fb, .slice none 0 0, .int .i64 x4, .int .i64 x5, .int .i64 x6] 27 := bx_row (bx_later hwz HP2.out) _
            have hq3 : Bx (wz.setRow w.heap.size #[.int .i64 x0, .int .i64 x1, .int .i64 x2, .slice av2 nd cv2, .slice none 0 0, .slice none 0 0, .bool fb, .slice none 0 0, .int .i64 x4, .int .i64 x5, .int .i64 x6]) (w.heap.size + 1) #[.int .i64 0] 40 := bx_row_other (bx_later hwz HQ2.out) (by omega) _
            have hr3 : Rdr w (wz.setRow w.heap.size #[.int .i64 x0, .int .i64 x1, .int .i64 x2, .slice av2 nd cv2, .slice none 0 0, .slice none 0 0, .bool fb, .slice none 0 0, .int .i64 x4, .int .i64 x5, .int .i64 x6]) (w.heap.size + 1 + 1) ((b.drop k1).drop k2) := rdr_row (rdr_later HR2.out hwz) (by omega) _
            have hb3 : Below w.heap.size w (wz.setRow w.heap.size #[.int .i64 x0, .int .i64 x1, .int .i64 x2, .slice av2 nd cv2, .slice none 0 0, .slice none 0 0, .bool fb, .slice none 0 0, .int .i64 x4, .int .i64 x5, .int .i64 x6]) := below_row (below_then HB2.out hwz) (Nat.le_refl _) _
            have ho3 : (wz.setRow w.heap.size #[.int .i64 x0, .int .i64 x1, .int .i64 x2, .slice av2 nd cv2, .slice none 0 0, .slice none 0 0, .bool fb, .slice none 0 0, .int .i64 x4, .int .i64 x5, .int .i64 x6]).ownsRow wA.heap.size 3 1 (.slice av2 nd cv2) nd (ds.map ic) := own_row (own_later HO2.out hwz) (bx_later hwz HP2.out) rfl _
            clear hwz hF hD d0 i0 d1 i1 d2 i2 d3 i3 d4 i4 d5 i5 d6 i6
            generalize wz.setRow w.heap.size #[.int .i64 x0, .int .i64 x1, .int .i64 x2, .slice av2 nd cv2, .slice none 0 0, .slice none 0 0, .bool fb, .slice none 0 0, .int .i64 x4, .int .i64 x5, .int .i64 x6] = w3 at hp3 hq3 hr3 hb3 ho3 ⊢
            have HP3 := Lib.hid hp3
            have HQ3 := Lib.hid hq3
            have HR3 := Lib.hid hr3
            have HB3 := Lib.hid hb3
            have HO3 := Lib.hid ho3
            have hg3 : w.heap.size + 1 + 1 < w3.heap.size := by obtain ⟨_, _, _, hq, _, _⟩ := id hr3; exact (Array.getElem?_eq_some_iff.1 hq).1
            have C3 := Lib.hid (allOps_any hr3 hb3 (by omega) (by rw [List.length_drop, List.length_drop]; omega))
            clear hp3 hq3 hr3 hb3 ho3
            go_wp2_with fail
            refine C3.out.mono ?_
            rintro e w4 ⟨hb4, hc | hc⟩
            · obtain ⟨hd, rfl⟩ := hc
              have HB4 := Lib.hid (HB3.out.trans (hb4.below (B := w.heap.size) HB3.out.size (fun k e => by subst e; omega)))
              have HP4 := Lib.hid (bx_but HP3.out hb4 (by omega))
              have HQ4 := Lib.hid (bx_but HQ3.out hb4 (by omega))
              have HS : Hid (parseT b = none) := parse_no4 HD1.out HD2.out hd
              clear hd hb4 C3
              go_wp2_with fail
              exact door_panic HP4.out rfl HQ4.out (by omega) (by rfl) (by rfl) (fun w' hbt => ⟨HB4.out.trans (hbt.below (B := w.heap.size) HB4.out.size (fun k e => by rcases e with e | e <;> omega)), .inl ⟨HS.out, rfl⟩⟩)
            · obtain ⟨v4, os, k3, hd4, rfl, hk3, hr4, ms, a4, c4, hos, rfl, ho4⟩ := hc
              have HB4 := Lib.hid (HB3.out.trans (hb4.below (B := w.heap.size) HB3.out.size (fun k e => by subst e; omega)))
              have HP4 := Lib.hid (bx_but HP3.out hb4 (by omega))
              have HQ4 := Lib.hid (bx_but HQ3.out hb4 (by omega))
              have HD4 := Lib.hid hd4
              have HOS := Lib.hid hos
              have HOO4 := Lib.hid ho4
              have HO4 := Lib.hid (own_but HO3.out hb4 (fun q hq e => own_g (g := w.heap.size + 1 + 1) HO3.out (by omega) (by rw [hq, e])))
              have C4 := Lib.hid (allOps_any hr4 HB4.out (by omega) (by simp only [List.length_drop]; omega))
              have hs34 := hb4.size
              clear hd4 hos ho4 hr4 hb4 C3
              go_wp2_with fail
              refine C4.out.mono ?_
              rintro e w5 ⟨hb5, hc | hc⟩
              · obtain ⟨hd, rfl⟩ := hc
                have HB5 := Lib.hid (HB4.out.trans (hb5.below (B := w.heap.size) HB4.out.size (fun k e => by subst e; omega)))
                have HP5 := Lib.hid (bx_but HP4.out hb5 (by omega))
                have HQ5 := Lib.hid (bx_but HQ4.out hb5 (by omega))
                have HS : Hid (parseT b = none) := parse_no5 HD1.out HD2.out HD4.out hd
                clear hd hb5 C4
                go_wp2_with fail
                exact door_panic HP5.out rfl HQ5.out (by omega) (by rfl) (by rfl) (fun w' hbt => ⟨HB5.out.trans (hbt.below (B := w.heap.size) HB5.out.size (fun k e => by rcases e with e | e <;> omega)), .inl ⟨HS.out, rfl⟩⟩)
              · obtain ⟨v5, es, k4, hd5, rfl, hk4, hr5, mt, a5, c5, hes, rfl, ho5⟩ := hc
                have HB5 := Lib.hid (HB4.out.trans (hb5.below (B := w.heap.size) HB4.out.size (fun k e => by subst e; omega)))
                have HP5 := Lib.hid (bx_but HP4.out hb5 (by omega))
                have HQ5 := Lib.hid (bx_but HQ4.out hb5 (by omega))
                have HD5 := Lib.hid hd5
                have HES := Lib.hid hes
                have HOE5 := Lib.hid ho5
                have HO5 := Lib.hid (own_but HO4.out hb5 (fun q hq e => own_g (g := w.heap.size + 1 + 1) HO4.out (by omega) (by rw [hq, e])))
                have HOO5 := Lib.hid (ownOps_but HOO4.out hb5 (by omega))
                have C5 := Lib.hid (allHands_any hr5 HB5.out (by omega) (by simp only [List.length_drop]; omega))
                have hs45 := hb5.size
                clear hd5 hes ho5 hr5 hb5 C4
                go_wp2_with fail
                refine C5.out.mono ?_
                rintro e w6 ⟨hb6, hc | hc⟩
                · obtain ⟨hd, rfl⟩ := hc
                  have HB6 := Lib.hid (HB5.out.trans (hb6.below (B := w.heap.size) HB5.out.size (fun k e => by subst e; omega)))
                  have HP6 := Lib.hid (bx_but HP5.out hb6 (by omega))
                  have HQ6 := Lib.hid (bx_but HQ5.out hb6 (by omega))
                  have HS : Hid (parseT b = none) := parse_no6 HD1.out HD2.out HD4.out HD5.out hd
                  clear hd hb6 C5
                  go_wp2_with fail
                  exact door_panic HP6.out rfl HQ6.out (by omega) (by rfl) (by rfl) (fun w' hbt => ⟨HB6.out.trans (hbt.below (B := w.heap.size) HB6.out.size (fun k e => by rcases e with e | e <;> omega)), .inl ⟨HS.out, rfl⟩⟩)
                · obtain ⟨v6, hs', k5, hd6, rfl, hk5, hr6, hs, a6, c6, rfl, rfl, ho6⟩ := hc
                  have HB6 := Lib.hid (HB5.out.trans (hb6.below (B := w.heap.size) HB5.out.size (fun k e => by subst e; omega)))
                  have HP6 := Lib.hid (bx_but HP5.out hb6 (by omega))
                  have HQ6 := Lib.hid (bx_but HQ5.out hb6 (by omega))
                  have HD6 := Lib.hid hd6
                  have HOH6 := Lib.hid ho6
                  have HO6 := Lib.hid (own_but HO5.out hb6 (fun q hq e => own_g (g := w.heap.size + 1 + 1) HO5.out (by omega) (by rw [hq, e])))
                  have HOO6 := Lib.hid (ownOps_but HOO5.out hb6 (by omega))
                  have HOE6 := Lib.hid (ownOps_but HOE5.out hb6 (by omega))
                  have HR6 := Lib.hid hr6
                  have y4 := cell_of_box HP6.out 4 rfl
                  have y5 := cell_of_box HP6.out 5 rfl
                  have y7 := cell_of_box HP6.out 7 rfl
                  have z4 := frozen_of_box HP6.out 4
                  have z5 := frozen_of_box HP6.out 5
                  have z7 := frozen_of_box HP6.out 7
                  clear hd6 ho6 hr6 hb6 C5
                  go_upto_region 10 with fail
                  obtain ⟨w7, hw7⟩ : ∃ w7, ((w6.setCell ⟨w.heap.size, 4, none⟩ (.slice a4 ms.length c4)).setCell ⟨w.heap.size, 5, none⟩ (.slice a5 mt.length c5)).setCell ⟨w.heap.size, 7, none⟩ (.slice a6 hs.length c6) = w7 := ⟨_, rfl⟩
                  rw [hw7]
                  have hbt7 : But (fun k => k = w.heap.size) w6 w7 := by rw [← hw7]; exact (((But.refl (fun k => k = w.heap.size) w6).set (a := ⟨w.heap.size, 4, none⟩) rfl _).set (a := ⟨w.heap.size, 5, none⟩) rfl _).set (a := ⟨w.heap.size, 7, none⟩) rfl _
                  have hp7 : Bx w7 w.heap.size #[.int .i64 x0, .int .i64 x1, .int .i64 x2, .slice av2 nd cv2, .slice a4 ms.length c4, .slice a5 mt.length c5, .bool fb, .slice a6 hs.length c6, .int .i64 x4, .int .i64 x5, .int .i64 x6] 27 := by rw [← hw7]; exact bx_set (bx_set (bx_set HP6.out 4 _) 5 _) 7 _
                  have HB7 := Lib.hid (HB6.out.trans (hbt7.below (B := w.heap.size) HB6.out.size (fun k e => by subst e; omega)))
                  have HP7 := Lib.hid hp7
                  have HQ7 := Lib.hid (bx_but HQ6.out hbt7 (by omega))
                  have HO7 := Lib.hid (own_but HO6.out hbt7 (fun q hq e => own_g (g := w.heap.size) HO6.out (by omega) (by rw [hq, e])))
                  have HOO7 := Lib.hid (ownOps_but HOO6.out hbt7 (by omega))
                  have HOE7 := Lib.hid (ownOps_but HOE6.out hbt7 (by omega))
                  have HOH7 := Lib.hid (own_but HOH6.out hbt7 (fun q hq e => own_g (g := w.heap.size) HOH6.out (by omega) (by rw [hq, e])))
                  obtain ⟨a7, n7, c7, hx7, hrd7, hn7⟩ := HR6.out
                  have f7 := cell_of_box (bx_but hx7 hbt7 (by omega)) 0 rfl
                  have HALL := Lib.hid (parse_all HD1.out HD2.out HD4.out HD5.out HD6.out)
                  have hlen : n7 = b.length - (k1 + (k2 + (k3 + (k4 + k5)))) := by
                    rw [hn7]
                    simp only [List.length_drop]
                    omega
                  have hle : k1 + (k2 + (k3 + (k4 + k5))) ≤ b.length := by
                    simp only [List.length_drop] at hk2 hk3 hk4 hk5
                    omega
                  have HLEN := Lib.hid hlen
                  have HLE := Lib.hid hle
                  clear y4 y5 y7 z4 z5 z7 hbt7 hp7 hx7 hrd7 hn7 hw7 hlen hle
                  by_cases h0 : n7 = 0
                  · have e9 : ((n7 : Int) == 0) = true := by simp [h0]
                    have HS : Hid (parseT b = some (txOf ([x0, x1, x2, x3, x4, x5, x6], (ds, (os, (es, hs)))))) := by show _ = _; rw [HALL.out, if_pos (by have := HLEN.out; have := HLE.out; omega)]
                    clear h0
                    go_wp2_with fail
                    refine (must_true _ _).mono ?_
                    rintro e w9 ⟨rfl, rfl⟩
                    have y0 := cell_of_box HP7.out 0 rfl
                    have y1 := cell_of_box HP7.out 1 rfl
                    have y2 := cell_of_box HP7.out 2 rfl
                    have y3 := cell_of_box HP7.out 3 rfl
                    have y4 := cell_of_box HP7.out 4 rfl
                    have y5 := cell_of_box HP7.out 5 rfl
                    have y6 := cell_of_box HP7.out 6 rfl
                    have y7 := cell_of_box HP7.out 7 rfl
                    have y8 := cell_of_box HP7.out 8 rfl
                    have y9 := cell_of_box HP7.out 9 rfl
                    have y10 := cell_of_box HP7.out 10 rfl
                    go_wp2_with (refine wpList_store_box (T := 27) rfl _ _ rfl rfl rfl (by kernel_rfl) HP7.out rfl rfl rfl rfl ?_; have hp8 := bx_row HP7.out #[.int .i64 x0, .int .i64 x1, .int .i64 x2, .slice av2 nd cv2, .slice a4 ms.length c4, .slice a5 mt.length c5, .bool fb, .slice a6 hs.length c6, .int .i64 x4, .int .i64 x5, .int .i64 x6]; have hq8 := bx_row_other (g := w.heap.size) HQ7.out (by omega) #[.int .i64 x0, .int .i64 x1, .int .i64 x2, .slice av2 nd cv2, .slice a4 ms.length c4, .slice a5 mt.length c5, .bool fb, .slice a6 hs.length c6, .int .i64 x4, .int .i64 x5, .int .i64 x6]; have hbt8 := but_row w7 w.heap.size #[.int .i64 x0, .int .i64 x1, .int .i64 x2, .slice av2 nd cv2, .slice a4 ms.length c4, .slice a5 mt.length c5, .bool fb, .slice a6 hs.length c6, .int .i64 x4, .int .i64 x5, .int .i64 x6]; generalize w7.setRow w.heap.size #[.int .i64 x0, .int .i64 x1, .int .i64 x2, .slice av2 nd cv2, .slice a4 ms.length c4, .slice a5 mt.length c5, .bool fb, .slice a6 hs.length c6, .int .i64 x4, .int .i64 x5, .int .i64 x6] = w8 at hp8 hq8 hbt8 ⊢; have HP8 := Lib.hid hp8; have HQ8 := Lib.hid hq8; have HBT8 := Lib.hid hbt8; have g3 := cell_of_box hq8 0 rfl; have gz := frozen_of_box hq8 0; clear hp8 hq8 hbt8 y0 y1 y2 y3 y4 y5 y6 y7 y8 y9 y10)
                    have hp9 : Bx (w8.setCell ⟨w.heap.size + 1, 0, none⟩ (.int .i64 0)) w.heap.size #[.int .i64 x0, .int .i64 x1, .int .i64 x2, .slice av2 nd cv2, .slice a4 ms.length c4, .slice a5 mt.length c5, .bool fb, .slice a6 hs.length c6, .int .i64 x4, .int .i64 x5, .int .i64 x6] 27 := bx_set_other HP8.out (by omega) 0 _
                    have hq9 : Bx (w8.setCell ⟨w.heap.size + 1, 0, none⟩ (.int .i64 0)) (w.heap.size + 1) #[.int .i64 0] 40 := bx_set HQ8.out 0 _
                    have hbt9 : But (fun k => k = w.heap.size ∨ k = w.heap.size + 1) w7 (w8.setCell ⟨w.heap.size + 1, 0, none⟩ (.int .i64 0)) := (HBT8.out.mono (fun i _ e => .inl e)).set (a := ⟨w.heap.size + 1, 0, none⟩) (.inr rfl) _
                    have hS : parseT b = some (TxM.tx ⟨x0, x1, x2, ds, ms, mt, fb, hs, x4, x5, x6, .slice av2 nd cv2, .slice a4 ms.length c4, .slice a5 mt.length c5, .slice a6 hs.length c6⟩) := by rw [HS.out, ← HOS.out, ← HES.out, ← HFB.out]; rfl
                    refine door_ret hp9 hq9 rfl rfl ⟨HB7.out.trans (hbt9.below (B := w.heap.size) HB7.out.size (fun k e => by rcases e with e | e <;> omega)), .inr ⟨_, hS, rfl, ?_⟩⟩
                    have own9 : ∀ {e' s' n' : Nat} {v' : Value} {xs' : List Value} {B' : Nat}, w7.ownsRow B' e' s' v' n' xs' → w.heap.size + 1 < B' → (w8.setCell ⟨w.heap.size + 1, 0, none⟩ (.int .i64 0)).ownsRow B' e' s' v' n' xs' := fun ho hB => own_but ho hbt9 (fun q hq e => by
                      rcases e with e | e
                      · exact own_g (g := w.heap.size) ho (by omega) (by rw [hq, e])
                      · exact own_g (g := w.heap.size + 1) ho hB (by rw [hq, e]))
                    refine ⟨?_, ⟨Rd.of_own (own9 HOO7.out.1 (by omega)), fun m hm => Rd.of_own (own9 (HOO7.out.2 m hm) (by omega))⟩, ⟨Rd.of_own (own9 HOE7.out.1 (by omega)), fun m hm => Rd.of_own (own9 (HOE7.out.2 m hm) (by omega))⟩, Rd.of_own (own9 HOH7.out (by omega))⟩
                    show Rd _ (.slice av2 nd cv2) ds.length (ds.map ic)
                    rw [HND.out]
                    exact Rd.of_own (own9 HO7.out (by omega))
                  · have e9 : ((n7 : Int) == 0) = false := by simp [h0]
                    have HN0 := Lib.hid h0
                    clear h0
                    go_wp2_with fail
                    refine (must_false _ _).mono ?_
                    rintro e w9 ⟨rfl, rfl⟩
                    have HS : Hid (parseT b = none) := by show parseT b = none; rw [HALL.out, if_neg (by have := HLEN.out; have := HN0.out; omega)]
                    clear f7
                    go_wp2_with fail
                    exact door_panic HP7.out rfl HQ7.out (by omega) (by rfl) (by rfl) (fun w' hbt => ⟨HB7.out.trans (hbt.below (B := w.heap.size) HB7.out.size (fun k e => by rcases e with e | e <;> omega)), .inl ⟨HS.out, rfl⟩⟩)
        · obtain ⟨m, hm⟩ : ∃ m, nd = m + 1 := ⟨nd - 1, by omega⟩
          have hml : m < ds.length := by have := HND.out; omega
          obtain ⟨y, hy⟩ : ∃ y, ds[m] = y := ⟨_, rfl⟩
          obtain ⟨A, x1', c0, _⟩ := rd_one elVec ic HRD2.out HND.out.symm m hml
          rw [hy] at c0
          have e0 : ((nd : Int) == 0) = false := by simp; omega
          have e1 : (nd : Int) - 1 = (m : Int) := by omega
          have hgl : ds.getLast? = some y := by rw [List.getLast?_eq_getElem?, HND.out, hm, Nat.add_sub_cancel, List.getElem?_eq_getElem hml, hy]
          have HGL := Lib.hid hgl
          clear hy hgl hml hm h0
          by_cases hy0 : y = 0
          · have e2 : (y != 0) = false := by simp [hy0]
            have e3 : (y == 0) = true := by simp [hy0]
            have HL0 : Hid (ds.getLast? = some 0) := by rw [← hy0]; exact HGL.out
            go_wp2_with fail
            refine (must_false _ _).mono ?_
            rintro e w9 ⟨rfl, rfl⟩
            have HS : Hid (parseT b = none) := parse_no3 HD1.out (depsD_last HS2.out HL0.out)
            clear c0
            go_wp2_with fail
            exact door_panic HP2.out rfl HQ2.out (by omega) (by rfl) (by rfl) (fun w' hbt => ⟨HB2.out.trans (hbt.below (B := w.heap.size) HB2.out.size (fun k e => by rcases e with e | e <;> omega)), .inl ⟨HS.out, rfl⟩⟩)
          · have e2 : (y != 0) = true := by simp [hy0]
            have e3 : (y == 0) = false := by simp [hy0]
            have HD2 : Hid (depsD (b.drop k1) = some (ds, k2)) := depsD_yes HS2.out (by rw [HGL.out]; intro e; cases e; exact hy0 rfl)
            go_wp2_with fail
            refine (must_true _ _).mono ?_
            rintro e w9 ⟨rfl, rfl⟩
            go_upto_region 7 with fail
            clear c0 x1'
            have hrl : Rd w2 (.slice av 7 cv) 7 ([x0, x1, x2, x3, x4, x5, x6].map ic) := Rd.of_own HOL2.out
            obtain ⟨A0, A1, A2, A3, A4, A5, A6, i0, i1, i2, i3, i4, i5, i6, d0, d1, d2, d3, d4, d5, d6⟩ := seven_rd hrl
            clear hrl
            refine wp_region_flow (by kernel_rfl) 24 [] (by kernel_rfl) ?_ ?_ ?_
            · intro x hx; cases hx
            · intro x hx; cases hx
            · intro lo hi
              have kd0 := cell_regrown d0
              have kd1 := cell_regrown d1
              have kd2 := cell_regrown d2
              have kd3 := cell_regrown d3
              have kd4 := cell_regrown d4
              have kd5 := cell_regrown d5
              have kd6 := cell_regrown d6
              refine flowW_plain rfl ?_
              go_big_quiet_step (fail)
              refine wpQuiet_nil ?_
              refine flowW_plain rfl ?_
              go_big_quiet_step (fail)
              refine wpQuiet_nil ?_
              refine flowW_plain rfl ?_
              go_big_quiet_step (fail)
              refine wpQuiet_nil ?_
              refine flowW_plain rfl ?_
              go_big_quiet_step (fail)
              refine wpQuiet_nil ?_
              refine flowW_plain rfl ?_
              go_big_quiet_step (fail)
              refine wpQuiet_nil ?_
              refine flowW_plain rfl ?_
              go_big_quiet_step (fail)
              refine wpQuiet_nil ?_
              refine flowW_plain rfl ?_
              go_big_quiet_step (fail)
              refine wpQuiet_nil ?_
              refine flowW_plain rfl ?_
              go_big_quiet_step (fail)
              refine wpQuiet_nil ?_
              refine flowW_plain rfl ?_
              go_big_quiet_step (fail)
              refine wpQuiet_nil ?_
              refine flowW_plain rfl ?_
              go_big_quiet_step (fail)
              refine wpQuiet_nil ?_
              refine flowW_plain rfl ?_
              go_big_quiet_step (fail)
              refine wpQuiet_nil ?_
              refine flowW_plain rfl ?_
              go_big_quiet_step (fail)
              refine wpQuiet_nil ?_
              refine flowW_plain rfl ?_
              go_big_quiet_step (fail)
              refine wpQuiet_nil ?_
              refine flowW_plain rfl ?_
              go_big_quiet_step (fail)
              refine wpQuiet_nil ?_
              refine flowW_plain rfl ?_
              go_big_quiet_step (fail)
              refine wpQuiet_nil ?_
              refine flowW_plain rfl ?_
              go_big_quiet_step (fail)
              refine wpQuiet_nil ?_
              refine flowW_plain rfl ?_
              go_big_quiet_step (fail)
              refine wpQuiet_nil ?_
              refine flowW_plain rfl ?_
              go_big_quiet_step (fail)
              refine wpQuiet_nil ?_
              refine flowW_plain rfl ?_
              go_big_quiet_step (fail)
              refine wpQuiet_nil ?_
              refine flowW_plain rfl ?_
              go_big_quiet_step (fail)
              refine wpQuiet_nil ?_
              refine flowW_plain rfl ?_
              go_big_quiet_step (fail)
              refine wpQuiet_nil ?_
              refine flowW_plain rfl ?_
              go_big_quiet_step (fail)
              refine wpQuiet_nil ?_
              refine flowW_plain rfl ?_
              go_big_quiet_step (fail)
              refine wpQuiet_nil ?_
              refine flowW_plain rfl ?_
              go_big_quiet_step (fail)
              refine wpQuiet_nil ?_
              refine flowW_end fun wz hwz hF hD => ?_
              clear kd0 kd1 kd2 kd3 kd4 kd5 kd6
              simp only [List.drop_succ_cons, List.drop_zero]
              refine wpList_store_box rfl _ _ rfl rfl rfl (by kernel_rfl) (bx_later hwz HP2.out) rfl rfl rfl rfl ?_
              have hp3 : Bx (wz.setRow w.heap.size #[.int .i64 x0, .int .i64 x1, .int .i64 x2, .slice av2 nd cv2, .slice none 0 0, .slice none 0 0, .bool fb, .slice none 0 0, .int .i64 x4, .int .i64 x5, .int .i64 x6]) w.heap.size #[.int .i64 x0, .int .i64 x1, .int .i64 x2, .slice av2 nd cv2, .slice none 0 0, .slice none 0 0, .bool fb, .slice none 0 0, .int .i64 x4, .int .i64 x5, .int .i64 x6] 27 := bx_row (bx_later hwz HP2.out) _
              have hq3 : Bx (wz.setRow w.heap.size #[.int .i64 x0, .int .i64 x1, .int .i64 x2, .slice av2 nd cv2, .slice none 0 0, .slice none 0 0, .bool fb, .slice none 0 0, .int .i64 x4, .int .i64 x5, .int .i64 x6]) (w.heap.size + 1) #[.int .i64 0] 40 := bx_row_other (bx_later hwz HQ2.out) (by omega) _
              have hr3 : Rdr w (wz.setRow w.heap.size #[.int .i64 x0, .int .i64 x1, .int .i64 x2, .slice av2 nd cv2, .slice none 0 0, .slice none 0 0, .bool fb, .slice none 0 0, .int .i64 x4, .int .i64 x5, .int .i64 x6]) (w.heap.size + 1 + 1) ((b.drop k1).drop k2) := rdr_row (rdr_later HR2.out hwz) (by omega) _
              have hb3 : Below w.heap.size w (wz.setRow w.heap.size #[.int .i64 x0, .int .i64 x1, .int .i64 x2, .slice av2 nd cv2, .slice none 0 0, .slice none 0 0, .bool fb, .slice none 0 0, .int .i64 x4, .int .i64 x5, .int .i64 x6]) := below_row (below_then HB2.out hwz) (Nat.le_refl _) _
              have ho3 : (wz.setRow w.heap.size #[.int .i64 x0, .int .i64 x1, .int .i64 x2, .slice av2 nd cv2, .slice none 0 0, .slice none 0 0, .bool fb, .slice none 0 0, .int .i64 x4, .int .i64 x5, .int .i64 x6]).ownsRow wA.heap.size 3 1 (.slice av2 nd cv2) nd (ds.map ic) := own_row (own_later HO2.out hwz) (bx_later hwz HP2.out) rfl _
              clear hwz hF hD d0 i0 d1 i1 d2 i2 d3 i3 d4 i4 d5 i5 d6 i6
              generalize wz.setRow w.heap.size #[.int .i64 x0, .int .i64 x1, .int .i64 x2, .slice av2 nd cv2, .slice none 0 0, .slice none 0 0, .bool fb, .slice none 0 0, .int .i64 x4, .int .i64 x5, .int .i64 x6] = w3 at hp3 hq3 hr3 hb3 ho3 ⊢
              have HP3 := Lib.hid hp3
              have HQ3 := Lib.hid hq3
              have HR3 := Lib.hid hr3
              have HB3 := Lib.hid hb3
              have HO3 := Lib.hid ho3
              have hg3 : w.heap.size + 1 + 1 < w3.heap.size := by obtain ⟨_, _, _, hq, _, _⟩ := id hr3; exact (Array.getElem?_eq_some_iff.1 hq).1
              have C3 := Lib.hid (allOps_any hr3 hb3 (by omega) (by rw [List.length_drop, List.length_drop]; omega))
              clear hp3 hq3 hr3 hb3 ho3
              go_wp2_with fail
              refine C3.out.mono ?_
              rintro e w4 ⟨hb4, hc | hc⟩
              · obtain ⟨hd, rfl⟩ := hc
                have HB4 := Lib.hid (HB3.out.trans (hb4.below (B := w.heap.size) HB3.out.size (fun k e => by subst e; omega)))
                have HP4 := Lib.hid (bx_but HP3.out hb4 (by omega))
                have HQ4 := Lib.hid (bx_but HQ3.out hb4 (by omega))
                have HS : Hid (parseT b = none) := parse_no4 HD1.out HD2.out hd
                clear hd hb4 C3
                go_wp2_with fail
                exact door_panic HP4.out rfl HQ4.out (by omega) (by rfl) (by rfl) (fun w' hbt => ⟨HB4.out.trans (hbt.below (B := w.heap.size) HB4.out.size (fun k e => by rcases e with e | e <;> omega)), .inl ⟨HS.out, rfl⟩⟩)
              · obtain ⟨v4, os, k3, hd4, rfl, hk3, hr4, ms, a4, c4, hos, rfl, ho4⟩ := hc
                have HB4 := Lib.hid (HB3.out.trans (hb4.below (B := w.heap.size) HB3.out.size (fun k e => by subst e; omega)))
                have HP4 := Lib.hid (bx_but HP3.out hb4 (by omega))
                have HQ4 := Lib.hid (bx_but HQ3.out hb4 (by omega))
                have HD4 := Lib.hid hd4
                have HOS := Lib.hid hos
                have HOO4 := Lib.hid ho4
                have HO4 := Lib.hid (own_but HO3.out hb4 (fun q hq e => own_g (g := w.heap.size + 1 + 1) HO3.out (by omega) (by rw [hq, e])))
                have C4 := Lib.hid (allOps_any hr4 HB4.out (by omega) (by simp only [List.length_drop]; omega))
                have hs34 := hb4.size
                clear hd4 hos ho4 hr4 hb4 C3
                go_wp2_with fail
                refine C4.out.mono ?_
                rintro e w5 ⟨hb5, hc | hc⟩
                · obtain ⟨hd, rfl⟩ := hc
                  have HB5 := Lib.hid (HB4.out.trans (hb5.below (B := w.heap.size) HB4.out.size (fun k e => by subst e; omega)))
                  have HP5 := Lib.hid (bx_but HP4.out hb5 (by omega))
                  have HQ5 := Lib.hid (bx_but HQ4.out hb5 (by omega))
                  have HS : Hid (parseT b = none) := parse_no5 HD1.out HD2.out HD4.out hd
                  clear hd hb5 C4
                  go_wp2_with fail
                  exact door_panic HP5.out rfl HQ5.out (by omega) (by rfl) (by rfl) (fun w' hbt => ⟨HB5.out.trans (hbt.below (B := w.heap.size) HB5.out.size (fun k e => by rcases e with e | e <;> omega)), .inl ⟨HS.out, rfl⟩⟩)
                · obtain ⟨v5, es, k4, hd5, rfl, hk4, hr5, mt, a5, c5, hes, rfl, ho5⟩ := hc
                  have HB5 := Lib.hid (HB4.out.trans (hb5.below (B := w.heap.size) HB4.out.size (fun k e => by subst e; omega)))
                  have HP5 := Lib.hid (bx_but HP4.out hb5 (by omega))
                  have HQ5 := Lib.hid (bx_but HQ4.out hb5 (by omega))
                  have HD5 := Lib.hid hd5
                  have HES := Lib.hid hes
                  have HOE5 := Lib.hid ho5
                  have HO5 := Lib.hid (own_but HO4.out hb5 (fun q hq e => own_g (g := w.heap.size + 1 + 1) HO4.out (by omega) (by rw [hq, e])))
                  have HOO5 := Lib.hid (ownOps_but HOO4.out hb5 (by omega))
                  have C5 := Lib.hid (allHands_any hr5 HB5.out (by omega) (by simp only [List.length_drop]; omega))
                  have hs45 := hb5.size
                  clear hd5 hes ho5 hr5 hb5 C4
                  go_wp2_with fail
                  refine C5.out.mono ?_
                  rintro e w6 ⟨hb6, hc | hc⟩
                  · obtain ⟨hd, rfl⟩ := hc
                    have HB6 := Lib.hid (HB5.out.trans (hb6.below (B := w.heap.size) HB5.out.size (fun k e => by subst e; omega)))
                    have HP6 := Lib.hid (bx_but HP5.out hb6 (by omega))
                    have HQ6 := Lib.hid (bx_but HQ5.out hb6 (by omega))
                    have HS : Hid (parseT b = none) := parse_no6 HD1.out HD2.out HD4.out HD5.out hd
                    clear hd hb6 C5
                    go_wp2_with fail
                    exact door_panic HP6.out rfl HQ6.out (by omega) (by rfl) (by rfl) (fun w' hbt => ⟨HB6.out.trans (hbt.below (B := w.heap.size) HB6.out.size (fun k e => by rcases e with e | e <;> omega)), .inl ⟨HS.out, rfl⟩⟩)
                  · obtain ⟨v6, hs', k5, hd6, rfl, hk5, hr6, hs, a6, c6, rfl, rfl, ho6⟩ := hc
                    have HB6 := Lib.hid (HB5.out.trans (hb6.below (B := w.heap.size) HB5.out.size (fun k e => by subst e; omega)))
                    have HP6 := Lib.hid (bx_but HP5.out hb6 (by omega))
                    have HQ6 := Lib.hid (bx_but HQ5.out hb6 (by omega))
                    have HD6 := Lib.hid hd6
                    have HOH6 := Lib.hid ho6
                    have HO6 := Lib.hid (own_but HO5.out hb6 (fun q hq e => own_g (g := w.heap.size + 1 + 1) HO5.out (by omega) (by rw [hq, e])))
                    have HOO6 := Lib.hid (ownOps_but HOO5.out hb6 (by omega))
                    have HOE6 := Lib.hid (ownOps_but HOE5.out hb6 (by omega))
                    have HR6 := Lib.hid hr6
                    have y4 := cell_of_box HP6.out 4 rfl
                    have y5 := cell_of_box HP6.out 5 rfl
                    have y7 := cell_of_box HP6.out 7 rfl
                    have z4 := frozen_of_box HP6.out 4
                    have z5 := frozen_of_box HP6.out 5
                    have z7 := frozen_of_box HP6.out 7
                    clear hd6 ho6 hr6 hb6 C5
                    go_upto_region 10 with fail
                    obtain ⟨w7, hw7⟩ : ∃ w7, ((w6.setCell ⟨w.heap.size, 4, none⟩ (.slice a4 ms.length c4)).setCell ⟨w.heap.size, 5, none⟩ (.slice a5 mt.length c5)).setCell ⟨w.heap.size, 7, none⟩ (.slice a6 hs.length c6) = w7 := ⟨_, rfl⟩
                    rw [hw7]
                    have hbt7 : But (fun k => k = w.heap.size) w6 w7 := by rw [← hw7]; exact (((But.refl (fun k => k = w.heap.size) w6).set (a := ⟨w.heap.size, 4, none⟩) rfl _).set (a := ⟨w.heap.size, 5, none⟩) rfl _).set (a := ⟨w.heap.size, 7, none⟩) rfl _
                    have hp7 : Bx w7 w.heap.size #[.int .i64 x0, .int .i64 x1, .int .i64 x2, .slice av2 nd cv2, .slice a4 ms.length c4, .slice a5 mt.length c5, .bool fb, .slice a6 hs.length c6, .int .i64 x4, .int .i64 x5, .int .i64 x6] 27 := by rw [← hw7]; exact bx_set (bx_set (bx_set HP6.out 4 _) 5 _) 7 _
                    have HB7 := Lib.hid (HB6.out.trans (hbt7.below (B := w.heap.size) HB6.out.size (fun k e => by subst e; omega)))
                    have HP7 := Lib.hid hp7
                    have HQ7 := Lib.hid (bx_but HQ6.out hbt7 (by omega))
                    have HO7 := Lib.hid (own_but HO6.out hbt7 (fun q hq e => own_g (g := w.heap.size) HO6.out (by omega) (by rw [hq, e])))
                    have HOO7 := Lib.hid (ownOps_but HOO6.out hbt7 (by omega))
                    have HOE7 := Lib.hid (ownOps_but HOE6.out hbt7 (by omega))
                    have HOH7 := Lib.hid (own_but HOH6.out hbt7 (fun q hq e => own_g (g := w.heap.size) HOH6.out (by omega) (by rw [hq, e])))
                    obtain ⟨a7, n7, c7, hx7, hrd7, hn7⟩ := HR6.out
                    have f7 := cell_of_box (bx_but hx7 hbt7 (by omega)) 0 rfl
                    have HALL := Lib.hid (parse_all HD1.out HD2.out HD4.out HD5.out HD6.out)
                    have hlen : n7 = b.length - (k1 + (k2 + (k3 + (k4 + k5)))) := by
                      rw [hn7]
                      simp only [List.length_drop]
                      omega
                    have hle : k1 + (k2 + (k3 + (k4 + k5))) ≤ b.length := by
                      simp only [List.length_drop] at hk2 hk3 hk4 hk5
                      omega
                    have HLEN := Lib.hid hlen
                    have HLE := Lib.hid hle
                    clear y4 y5 y7 z4 z5 z7 hbt7 hp7 hx7 hrd7 hn7 hw7 hlen hle
                    by_cases h0 : n7 = 0
                    · have e9 : ((n7 : Int) == 0) = true := by simp [h0]
                      have HS : Hid (parseT b = some (txOf ([x0, x1, x2, x3, x4, x5, x6], (ds, (os, (es, hs)))))) := by show _ = _; rw [HALL.out, if_pos (by have := HLEN.out; have := HLE.out; omega)]
                      clear h0
                      go_wp2_with fail
                      refine (must_true _ _).mono ?_
                      rintro e w9 ⟨rfl, rfl⟩
                      have y0 := cell_of_box HP7.out 0 rfl
                      have y1 := cell_of_box HP7.out 1 rfl
                      have y2 := cell_of_box HP7.out 2 rfl
                      have y3 := cell_of_box HP7.out 3 rfl
                      have y4 := cell_of_box HP7.out 4 rfl
                      have y5 := cell_of_box HP7.out 5 rfl
                      have y6 := cell_of_box HP7.out 6 rfl
                      have y7 := cell_of_box HP7.out 7 rfl
                      have y8 := cell_of_box HP7.out 8 rfl
                      have y9 := cell_of_box HP7.out 9 rfl
                      have y10 := cell_of_box HP7.out 10 rfl
                      go_wp2_with (refine wpList_store_box (T := 27) rfl _ _ rfl rfl rfl (by kernel_rfl) HP7.out rfl rfl rfl rfl ?_; have hp8 := bx_row HP7.out #[.int .i64 x0, .int .i64 x1, .int .i64 x2, .slice av2 nd cv2, .slice a4 ms.length c4, .slice a5 mt.length c5, .bool fb, .slice a6 hs.length c6, .int .i64 x4, .int .i64 x5, .int .i64 x6]; have hq8 := bx_row_other (g := w.heap.size) HQ7.out (by omega) #[.int .i64 x0, .int .i64 x1, .int .i64 x2, .slice av2 nd cv2, .slice a4 ms.length c4, .slice a5 mt.length c5, .bool fb, .slice a6 hs.length c6, .int .i64 x4, .int .i64 x5, .int .i64 x6]; have hbt8 := but_row w7 w.heap.size #[.int .i64 x0, .int .i64 x1, .int .i64 x2, .slice av2 nd cv2, .slice a4 ms.length c4, .slice a5 mt.length c5, .bool fb, .slice a6 hs.length c6, .int .i64 x4, .int .i64 x5, .int .i64 x6]; generalize w7.setRow w.heap.size #[.int .i64 x0, .int .i64 x1, .int .i64 x2, .slice av2 nd cv2, .slice a4 ms.length c4, .slice a5 mt.length c5, .bool fb, .slice a6 hs.length c6, .int .i64 x4, .int .i64 x5, .int .i64 x6] = w8 at hp8 hq8 hbt8 ⊢; have HP8 := Lib.hid hp8; have HQ8 := Lib.hid hq8; have HBT8 := Lib.hid hbt8; have g3 := cell_of_box hq8 0 rfl; have gz := frozen_of_box hq8 0; clear hp8 hq8 hbt8 y0 y1 y2 y3 y4 y5 y6 y7 y8 y9 y10)
                      have hp9 : Bx (w8.setCell ⟨w.heap.size + 1, 0, none⟩ (.int .i64 0)) w.heap.size #[.int .i64 x0, .int .i64 x1, .int .i64 x2, .slice av2 nd cv2, .slice a4 ms.length c4, .slice a5 mt.length c5, .bool fb, .slice a6 hs.length c6, .int .i64 x4, .int .i64 x5, .int .i64 x6] 27 := bx_set_other HP8.out (by omega) 0 _
                      have hq9 : Bx (w8.setCell ⟨w.heap.size + 1, 0, none⟩ (.int .i64 0)) (w.heap.size + 1) #[.int .i64 0] 40 := bx_set HQ8.out 0 _
                      have hbt9 : But (fun k => k = w.heap.size ∨ k = w.heap.size + 1) w7 (w8.setCell ⟨w.heap.size + 1, 0, none⟩ (.int .i64 0)) := (HBT8.out.mono (fun i _ e => .inl e)).set (a := ⟨w.heap.size + 1, 0, none⟩) (.inr rfl) _
                      have hS : parseT b = some (TxM.tx ⟨x0, x1, x2, ds, ms, mt, fb, hs, x4, x5, x6, .slice av2 nd cv2, .slice a4 ms.length c4, .slice a5 mt.length c5, .slice a6 hs.length c6⟩) := by rw [HS.out, ← HOS.out, ← HES.out, ← HFB.out]; rfl
                      refine door_ret hp9 hq9 rfl rfl ⟨HB7.out.trans (hbt9.below (B := w.heap.size) HB7.out.size (fun k e => by rcases e with e | e <;> omega)), .inr ⟨_, hS, rfl, ?_⟩⟩
                      have own9 : ∀ {e' s' n' : Nat} {v' : Value} {xs' : List Value} {B' : Nat}, w7.ownsRow B' e' s' v' n' xs' → w.heap.size + 1 < B' → (w8.setCell ⟨w.heap.size + 1, 0, none⟩ (.int .i64 0)).ownsRow B' e' s' v' n' xs' := fun ho hB => own_but ho hbt9 (fun q hq e => by
                        rcases e with e | e
                        · exact own_g (g := w.heap.size) ho (by omega) (by rw [hq, e])
                        · exact own_g (g := w.heap.size + 1) ho hB (by rw [hq, e]))
                      refine ⟨?_, ⟨Rd.of_own (own9 HOO7.out.1 (by omega)), fun m hm => Rd.of_own (own9 (HOO7.out.2 m hm) (by omega))⟩, ⟨Rd.of_own (own9 HOE7.out.1 (by omega)), fun m hm => Rd.of_own (own9 (HOE7.out.2 m hm) (by omega))⟩, Rd.of_own (own9 HOH7.out (by omega))⟩
                      show Rd _ (.slice av2 nd cv2) ds.length (ds.map ic)
                      rw [HND.out]
                      exact Rd.of_own (own9 HO7.out (by omega))
                    · have e9 : ((n7 : Int) == 0) = false := by simp [h0]
                      have HN0 := Lib.hid h0
                      clear h0
                      go_wp2_with fail
                      refine (must_false _ _).mono ?_
                      rintro e w9 ⟨rfl, rfl⟩
                      have HS : Hid (parseT b = none) := by show parseT b = none; rw [HALL.out, if_neg (by have := HLEN.out; have := HN0.out; omega)]
                      clear f7
                      go_wp2_with fail
                      exact door_panic HP7.out rfl HQ7.out (by omega) (by rfl) (by rfl) (fun w' hbt => ⟨HB7.out.trans (hbt.below (B := w.heap.size) HB7.out.size (fun k e => by rcases e with e | e <;> omega)), .inl ⟨HS.out, rfl⟩⟩)
end Go.Proofs.Ytliokkoalkhpaaa
