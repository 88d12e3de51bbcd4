/-
  Layer 3 (row): columns; which rows may stand in them.
-/
import Derived.Test.YtliokkoalkhpaaaS
import Derived.Test.YtliokkoalkhpaaaVG
namespace Go.Proofs.Ytliokkoalkhpaaa
open Go.RowKit Go.Sort Go.BigFrame

/-- A column: its name, its kind, its type, whether there may be nothing. -/
structure Col where
  nm : ByteArray
  kd : Int
  ty : Int
  nl : Bool
  deriving DecidableEq

def Col.cs (c : Col) : List Value := [.string c.nm, .int .i64 c.kd, .int .i64 c.ty, .bool c.nl]

def kindC (c : Col) : Int := if c.kd = 0 then c.ty else if c.kd = 1 then c.ty else if c.kd = 2 then 1 else if c.kd = 3 then 1 else if c.kd = 4 then 2 else 0

def checkC (c : Col) (v : Val) : Int :=
  if rightV v = false then 1 else if v.k = 0 then (if (c.kd = 0 ∨ c.kd = 1) ∧ c.nl = false then 7 else 0) else if v.k = kindC c then 0 else 6

/-- The first error. -/
def firstC : List Col → List Val → Int
  | c :: l, v :: m => if checkC c v = 0 then firstC l m else checkC c v
  | _, _ => 0

def rightR (l : List Col) (m : List Val) : Int := if l.length = m.length then firstC l m else 1

set_option maxRecDepth 100000 in
set_option maxHeartbeats 400000 in
theorem kind_any (nm : ByteArray) (kd ty : Int) (nl : Bool) (w : World) :
    Calls Try.prog 100 #[.agg #[.string nm, .int .i64 kd, .int .i64 ty, .bool nl]] w fun e w' => e = .returned (.int .i64 (kindC ⟨nm, kd, ty, nl⟩)) ∧ Below w.heap.size w w' := by
  go_enter Try.func100, Try.ntmps100
  go_wp2
  all_goals (go_ret; refine ⟨ret_int ?_, ?_⟩)
  all_goals first
    | exact below_alloc _ _
    | (simp_all [kindC]; done)


theorem colval_later {w w1 : World} {a0 a1 a2 a3 b0 b1 b2 : Value} {e e' : TypeId}
    (h : Below ((w.alloc (.cells #[a0, a1, a2, a3] e)).alloc (.cells #[b0, b1, b2] e')).heap.size ((w.alloc (.cells #[a0, a1, a2, a3] e)).alloc (.cells #[b0, b1, b2] e')) w1) :
    (w1.cell? ⟨w.heap.size, 0, none⟩ = some a0 ∧ w1.cell? ⟨w.heap.size, 1, none⟩ = some a1 ∧ w1.cell? ⟨w.heap.size, 2, none⟩ = some a2 ∧ w1.cell? ⟨w.heap.size, 3, none⟩ = some a3) ∧
    (w1.cell? ⟨w.heap.size + 1, 0, none⟩ = some b0 ∧ w1.cell? ⟨w.heap.size + 1, 1, none⟩ = some b1 ∧ w1.cell? ⟨w.heap.size + 1, 2, none⟩ = some b2) := by
  refine ⟨⟨cell_later h ?_, cell_later h ?_, cell_later h ?_, cell_later h ?_⟩, ⟨cell_later h ?_, cell_later h ?_, cell_later h ?_⟩⟩
  all_goals simp [go_sem]

set_option maxRecDepth 100000 in
set_option maxHeartbeats 4000000 in
theorem check_any (nm : ByteArray) (kd ty : Int) (nl : Bool) (k n : Int) (s : ByteArray) (w : World) :
    Calls Try.prog 98 #[.agg #[.string nm, .int .i64 kd, .int .i64 ty, .bool nl], .agg #[.int .i64 k, .int .i64 n, .string s]] w fun e w' => e = .returned (.int .i64 (checkC ⟨nm, kd, ty, nl⟩ ⟨k, n, s⟩)) ∧ Below w.heap.size w w' := by
  obtain hk | hk | hk : kd = 0 ∨ kd = 1 ∨ (kd ≠ 0 ∧ kd ≠ 1) := by omega
  · subst hk
    cases hr : rightV ⟨k, n, s⟩
    · have HE : Hid (checkC ⟨nm, 0, ty, nl⟩ ⟨k, n, s⟩ = 1) := by show checkC _ _ = 1; unfold checkC; rw [if_pos hr]
      have HR := Lib.hid hr
      clear hr
      go_enter Try.func98, Try.ntmps98
      go_wp2_with (go_at_call 87; refine (rightV_any _ _ _ _).mono ?_; rintro e w1 ⟨rfl, hb1⟩; rw [HR.out]; obtain ⟨⟨c0, c1, c2, c3⟩, ⟨d0, d1, d2⟩⟩ := colval_later hb1; have HB := Lib.hid (below_alloc_then (below_alloc_then hb1)); clear hb1)
      go_ret
      rw [HE.out]
      exact ⟨rfl, HB.out⟩
    · have HR := Lib.hid hr
      have hnr : ¬ rightV ⟨k, n, s⟩ = false := by rw [hr]; decide
      clear hr
      by_cases z : k = 0
      · subst z
        cases nl
        · have HE : Hid (checkC ⟨nm, 0, ty, false⟩ ⟨0, n, s⟩ = 7) := by show checkC _ _ = _; unfold checkC; rw [if_neg hnr, if_pos rfl]; simp
          clear hnr
          go_enter Try.func98, Try.ntmps98
          go_wp2_with (go_at_call 87; refine (rightV_any _ _ _ _).mono ?_; rintro e w1 ⟨rfl, hb1⟩; rw [HR.out]; obtain ⟨⟨c0, c1, c2, c3⟩, ⟨d0, d1, d2⟩⟩ := colval_later hb1; have HB := Lib.hid (below_alloc_then (below_alloc_then hb1)); clear hb1)
          go_ret
          rw [HE.out]
          exact ⟨rfl, HB.out⟩
        · have HE : Hid (checkC ⟨nm, 0, ty, true⟩ ⟨0, n, s⟩ = 0) := by show checkC _ _ = _; unfold checkC; rw [if_neg hnr, if_pos rfl]; simp
          clear hnr
          go_enter Try.func98, Try.ntmps98
          go_wp2_with (go_at_call 87; refine (rightV_any _ _ _ _).mono ?_; rintro e w1 ⟨rfl, hb1⟩; rw [HR.out]; obtain ⟨⟨c0, c1, c2, c3⟩, ⟨d0, d1, d2⟩⟩ := colval_later hb1; have HB := Lib.hid (below_alloc_then (below_alloc_then hb1)); clear hb1)
          have kc0 := cell_regrown c0
          have kc1 := cell_regrown c1
          have kc2 := cell_regrown c2
          have kc3 := cell_regrown c3
          have kd0 := cell_regrown d0
          have kd1 := cell_regrown d1
          have kd2 := cell_regrown d2
          refine wp_region_quiet_below (by kernel_rfl) (by kernel_rfl) ?_
          repeat (go_big_quiet_step (first | fail))
          refine wpQuiet_nil ?_
          intro _ hw'
          obtain ⟨⟨dq, osq⟩, hw''⟩ := hw'
          subst hw''
          clear kc0 kc1 kc2 kc3 kd0 kd1 kd2
          have hb2 := below_regrown w1 dq osq
          generalize grow (redrawn w1 dq) osq = w2 at *
          replace c0 := cell_later hb2 c0
          replace c1 := cell_later hb2 c1
          replace c2 := cell_later hb2 c2
          replace c3 := cell_later hb2 c3
          replace d0 := cell_later hb2 d0
          replace d1 := cell_later hb2 d1
          replace d2 := cell_later hb2 d2
          go_wp2_with fail
          go_ret
          rw [HE.out]
          exact ⟨rfl, below_then HB.out hb2⟩
      · have z0 : (k == 0) = false := by rw [beq_eq_false_iff_ne]; exact z
        have z1 : (k != 0) = true := by rw [bne_iff_ne]; exact z
        obtain ⟨q, hq⟩ : ∃ q, kindC ⟨nm, 0, ty, nl⟩ = q := ⟨_, rfl⟩
        have HQ := Lib.hid hq
        by_cases hkk : k = q
        · have HE : Hid (checkC ⟨nm, 0, ty, nl⟩ ⟨k, n, s⟩ = 0) := by show checkC _ _ = _; unfold checkC; rw [if_neg hnr, if_neg z, hq, if_pos hkk]
          have z2 : (k != q) = false := by rw [bne_eq_false_iff_eq]; exact hkk
          clear hnr hkk hq z
          go_enter Try.func98, Try.ntmps98
          go_wp2_with (go_at_call 87; refine (rightV_any _ _ _ _).mono ?_; rintro e w1 ⟨rfl, hb1⟩; rw [HR.out]; obtain ⟨⟨c0, c1, c2, c3⟩, ⟨d0, d1, d2⟩⟩ := colval_later hb1; have HB := Lib.hid (below_alloc_then (below_alloc_then hb1)); clear hb1)
          have cS : ∀ d os, Calls Try.prog 100 #[.agg #[.string nm, .int .i64 0, .int .i64 ty, .bool nl]] (grow (redrawn w1 d) os) fun e w'' => e = .returned (.int .i64 (kindC ⟨nm, 0, ty, nl⟩)) ∧ ∃ p : Regrown, w'' = grow (redrawn w1 p.d) p.os := fun d os => Calls.regrown_of (kind_any _ _ _ _ _)
          rw [HQ.out] at cS
          have kc0 := cell_regrown c0
          have kc1 := cell_regrown c1
          have kc2 := cell_regrown c2
          have kc3 := cell_regrown c3
          have kd0 := cell_regrown d0
          have kd1 := cell_regrown d1
          have kd2 := cell_regrown d2
          refine wp_region_quiet_below (by kernel_rfl) (by kernel_rfl) ?_
          repeat (go_big_quiet_step (first | exact cS _ _))
          refine wpQuiet_nil ?_
          intro _ hw'
          obtain ⟨⟨dq, osq⟩, hw''⟩ := hw'
          subst hw''
          clear kc0 kc1 kc2 kc3 kd0 kd1 kd2 cS
          have hb2 := below_regrown w1 dq osq
          generalize grow (redrawn w1 dq) osq = w2 at *
          replace c0 := cell_later hb2 c0
          replace c1 := cell_later hb2 c1
          replace c2 := cell_later hb2 c2
          replace c3 := cell_later hb2 c3
          replace d0 := cell_later hb2 d0
          replace d1 := cell_later hb2 d1
          replace d2 := cell_later hb2 d2
          go_wp2_with fail
          go_ret
          rw [HE.out]
          exact ⟨rfl, below_then HB.out hb2⟩
        · have HE : Hid (checkC ⟨nm, 0, ty, nl⟩ ⟨k, n, s⟩ = 6) := by show checkC _ _ = _; unfold checkC; rw [if_neg hnr, if_neg z, hq, if_neg hkk]
          have z2 : (k != q) = true := by rw [bne_iff_ne]; exact hkk
          clear hnr hkk hq z
          go_enter Try.func98, Try.ntmps98
          go_wp2_with (go_at_call 87; refine (rightV_any _ _ _ _).mono ?_; rintro e w1 ⟨rfl, hb1⟩; rw [HR.out]; obtain ⟨⟨c0, c1, c2, c3⟩, ⟨d0, d1, d2⟩⟩ := colval_later hb1; have HB := Lib.hid (below_alloc_then (below_alloc_then hb1)); clear hb1)
          have cS : ∀ d os, Calls Try.prog 100 #[.agg #[.string nm, .int .i64 0, .int .i64 ty, .bool nl]] (grow (redrawn w1 d) os) fun e w'' => e = .returned (.int .i64 (kindC ⟨nm, 0, ty, nl⟩)) ∧ ∃ p : Regrown, w'' = grow (redrawn w1 p.d) p.os := fun d os => Calls.regrown_of (kind_any _ _ _ _ _)
          rw [HQ.out] at cS
          have kc0 := cell_regrown c0
          have kc1 := cell_regrown c1
          have kc2 := cell_regrown c2
          have kc3 := cell_regrown c3
          have kd0 := cell_regrown d0
          have kd1 := cell_regrown d1
          have kd2 := cell_regrown d2
          refine wp_region_quiet_below (by kernel_rfl) (by kernel_rfl) ?_
          repeat (go_big_quiet_step (first | exact cS _ _))
          refine wpQuiet_nil ?_
          intro _ hw'
          obtain ⟨⟨dq, osq⟩, hw''⟩ := hw'
          subst hw''
          clear kc0 kc1 kc2 kc3 kd0 kd1 kd2 cS
          have hb2 := below_regrown w1 dq osq
          generalize grow (redrawn w1 dq) osq = w2 at *
          replace c0 := cell_later hb2 c0
          replace c1 := cell_later hb2 c1
          replace c2 := cell_later hb2 c2
          replace c3 := cell_later hb2 c3
          replace d0 := cell_later hb2 d0
          replace d1 := cell_later hb2 d1
          replace d2 := cell_later hb2 d2
          go_wp2_with fail
          go_ret
          rw [HE.out]
          exact ⟨rfl, below_then HB.out hb2⟩
  · subst hk
    cases hr : rightV ⟨k, n, s⟩
    · have HE : Hid (checkC ⟨nm, 1, ty, nl⟩ ⟨k, n, s⟩ = 1) := by show checkC _ _ = 1; unfold checkC; rw [if_pos hr]
      have HR := Lib.hid hr
      clear hr
      go_enter Try.func98, Try.ntmps98
      go_wp2_with (go_at_call 87; refine (rightV_any _ _ _ _).mono ?_; rintro e w1 ⟨rfl, hb1⟩; rw [HR.out]; obtain ⟨⟨c0, c1, c2, c3⟩, ⟨d0, d1, d2⟩⟩ := colval_later hb1; have HB := Lib.hid (below_alloc_then (below_alloc_then hb1)); clear hb1)
      go_ret
      rw [HE.out]
      exact ⟨rfl, HB.out⟩
    · have HR := Lib.hid hr
      have hnr : ¬ rightV ⟨k, n, s⟩ = false := by rw [hr]; decide
      clear hr
      by_cases z : k = 0
      · subst z
        cases nl
        · have HE : Hid (checkC ⟨nm, 1, ty, false⟩ ⟨0, n, s⟩ = 7) := by show checkC _ _ = _; unfold checkC; rw [if_neg hnr, if_pos rfl]; simp
          clear hnr
          go_enter Try.func98, Try.ntmps98
          go_wp2_with (go_at_call 87; refine (rightV_any _ _ _ _).mono ?_; rintro e w1 ⟨rfl, hb1⟩; rw [HR.out]; obtain ⟨⟨c0, c1, c2, c3⟩, ⟨d0, d1, d2⟩⟩ := colval_later hb1; have HB := Lib.hid (below_alloc_then (below_alloc_then hb1)); clear hb1)
          go_ret
          rw [HE.out]
          exact ⟨rfl, HB.out⟩
        · have HE : Hid (checkC ⟨nm, 1, ty, true⟩ ⟨0, n, s⟩ = 0) := by show checkC _ _ = _; unfold checkC; rw [if_neg hnr, if_pos rfl]; simp
          clear hnr
          go_enter Try.func98, Try.ntmps98
          go_wp2_with (go_at_call 87; refine (rightV_any _ _ _ _).mono ?_; rintro e w1 ⟨rfl, hb1⟩; rw [HR.out]; obtain ⟨⟨c0, c1, c2, c3⟩, ⟨d0, d1, d2⟩⟩ := colval_later hb1; have HB := Lib.hid (below_alloc_then (below_alloc_then hb1)); clear hb1)
          have kc0 := cell_regrown c0
          have kc1 := cell_regrown c1
          have kc2 := cell_regrown c2
          have kc3 := cell_regrown c3
          have kd0 := cell_regrown d0
          have kd1 := cell_regrown d1
          have kd2 := cell_regrown d2
          refine wp_region_quiet_below (by kernel_rfl) (by kernel_rfl) ?_
          repeat (go_big_quiet_step (first | fail))
          refine wpQuiet_nil ?_
          intro _ hw'
          obtain ⟨⟨dq, osq⟩, hw''⟩ := hw'
          subst hw''
          clear kc0 kc1 kc2 kc3 kd0 kd1 kd2
          have hb2 := below_regrown w1 dq osq
          generalize grow (redrawn w1 dq) osq = w2 at *
          replace c0 := cell_later hb2 c0
          replace c1 := cell_later hb2 c1
          replace c2 := cell_later hb2 c2
          replace c3 := cell_later hb2 c3
          replace d0 := cell_later hb2 d0
          replace d1 := cell_later hb2 d1
          replace d2 := cell_later hb2 d2
          go_wp2_with fail
          go_ret
          rw [HE.out]
          exact ⟨rfl, below_then HB.out hb2⟩
      · have z0 : (k == 0) = false := by rw [beq_eq_false_iff_ne]; exact z
        have z1 : (k != 0) = true := by rw [bne_iff_ne]; exact z
        obtain ⟨q, hq⟩ : ∃ q, kindC ⟨nm, 1, ty, nl⟩ = q := ⟨_, rfl⟩
        have HQ := Lib.hid hq
        by_cases hkk : k = q
        · have HE : Hid (checkC ⟨nm, 1, ty, nl⟩ ⟨k, n, s⟩ = 0) := by show checkC _ _ = _; unfold checkC; rw [if_neg hnr, if_neg z, hq, if_pos hkk]
          have z2 : (k != q) = false := by rw [bne_eq_false_iff_eq]; exact hkk
          clear hnr hkk hq z
          go_enter Try.func98, Try.ntmps98
          go_wp2_with (go_at_call 87; refine (rightV_any _ _ _ _).mono ?_; rintro e w1 ⟨rfl, hb1⟩; rw [HR.out]; obtain ⟨⟨c0, c1, c2, c3⟩, ⟨d0, d1, d2⟩⟩ := colval_later hb1; have HB := Lib.hid (below_alloc_then (below_alloc_then hb1)); clear hb1)
          have cS : ∀ d os, Calls Try.prog 100 #[.agg #[.string nm, .int .i64 1, .int .i64 ty, .bool nl]] (grow (redrawn w1 d) os) fun e w'' => e = .returned (.int .i64 (kindC ⟨nm, 1, ty, nl⟩)) ∧ ∃ p : Regrown, w'' = grow (redrawn w1 p.d) p.os := fun d os => Calls.regrown_of (kind_any _ _ _ _ _)
          rw [HQ.out] at cS
          have kc0 := cell_regrown c0
          have kc1 := cell_regrown c1
          have kc2 := cell_regrown c2
          have kc3 := cell_regrown c3
          have kd0 := cell_regrown d0
          have kd1 := cell_regrown d1
          have kd2 := cell_regrown d2
          refine wp_region_quiet_below (by kernel_rfl) (by kernel_rfl) ?_
          repeat (go_big_quiet_step (first | exact cS _ _))
          refine wpQuiet_nil ?_
          intro _ hw'
          obtain ⟨⟨dq, osq⟩, hw''⟩ := hw'
          subst hw''
          clear kc0 kc1 kc2 kc3 kd0 kd1 kd2 cS
          have hb2 := below_regrown w1 dq osq
          generalize grow (redrawn w1 dq) osq = w2 at *
          replace c0 := cell_later hb2 c0
          replace c1 := cell_later hb2 c1
          replace c2 := cell_later hb2 c2
          replace c3 := cell_later hb2 c3
          replace d0 := cell_later hb2 d0
          replace d1 := cell_later hb2 d1
          replace d2 := cell_later hb2 d2
          go_wp2_with fail
          go_ret
          rw [HE.out]
          exact ⟨rfl, below_then HB.out hb2⟩
        · have HE : Hid (checkC ⟨nm, 1, ty, nl⟩ ⟨k, n, s⟩ = 6) := by show checkC _ _ = _; unfold checkC; rw [if_neg hnr, if_neg z, hq, if_neg hkk]
          have z2 : (k != q) = true := by rw [bne_iff_ne]; exact hkk
          clear hnr hkk hq z
          go_enter Try.func98, Try.ntmps98
          go_wp2_with (go_at_call 87; refine (rightV_any _ _ _ _).mono ?_; rintro e w1 ⟨rfl, hb1⟩; rw [HR.out]; obtain ⟨⟨c0, c1, c2, c3⟩, ⟨d0, d1, d2⟩⟩ := colval_later hb1; have HB := Lib.hid (below_alloc_then (below_alloc_then hb1)); clear hb1)
          have cS : ∀ d os, Calls Try.prog 100 #[.agg #[.string nm, .int .i64 1, .int .i64 ty, .bool nl]] (grow (redrawn w1 d) os) fun e w'' => e = .returned (.int .i64 (kindC ⟨nm, 1, ty, nl⟩)) ∧ ∃ p : Regrown, w'' = grow (redrawn w1 p.d) p.os := fun d os => Calls.regrown_of (kind_any _ _ _ _ _)
          rw [HQ.out] at cS
          have kc0 := cell_regrown c0
          have kc1 := cell_regrown c1
          have kc2 := cell_regrown c2
          have kc3 := cell_regrown c3
          have kd0 := cell_regrown d0
          have kd1 := cell_regrown d1
          have kd2 := cell_regrown d2
          refine wp_region_quiet_below (by kernel_rfl) (by kernel_rfl) ?_
          repeat (go_big_quiet_step (first | exact cS _ _))
          refine wpQuiet_nil ?_
          intro _ hw'
          obtain ⟨⟨dq, osq⟩, hw''⟩ := hw'
          subst hw''
          clear kc0 kc1 kc2 kc3 kd0 kd1 kd2 cS
          have hb2 := below_regrown w1 dq osq
          generalize grow (redrawn w1 dq) osq = w2 at *
          replace c0 := cell_later hb2 c0
          replace c1 := cell_later hb2 c1
          replace c2 := cell_later hb2 c2
          replace c3 := cell_later hb2 c3
          replace d0 := cell_later hb2 d0
          replace d1 := cell_later hb2 d1
          replace d2 := cell_later hb2 d2
          go_wp2_with fail
          go_ret
          rw [HE.out]
          exact ⟨rfl, below_then HB.out hb2⟩
  · have a0 : (kd == 0) = false := by rw [beq_eq_false_iff_ne]; exact hk.1
    have a1 : (kd == 1) = false := by rw [beq_eq_false_iff_ne]; exact hk.2
    have HK := Lib.hid hk
    clear hk
    cases hr : rightV ⟨k, n, s⟩
    · have HE : Hid (checkC ⟨nm, kd, ty, nl⟩ ⟨k, n, s⟩ = 1) := by show checkC _ _ = 1; unfold checkC; rw [if_pos hr]
      have HR := Lib.hid hr
      clear hr
      go_enter Try.func98, Try.ntmps98
      go_wp2_with (go_at_call 87; refine (rightV_any _ _ _ _).mono ?_; rintro e w1 ⟨rfl, hb1⟩; rw [HR.out]; obtain ⟨⟨c0, c1, c2, c3⟩, ⟨d0, d1, d2⟩⟩ := colval_later hb1; have HB := Lib.hid (below_alloc_then (below_alloc_then hb1)); clear hb1)
      go_ret
      rw [HE.out]
      exact ⟨rfl, HB.out⟩
    · have HR := Lib.hid hr
      have hnr : ¬ rightV ⟨k, n, s⟩ = false := by rw [hr]; decide
      clear hr
      by_cases z : k = 0
      · subst z
        cases nl
        · have HE : Hid (checkC ⟨nm, kd, ty, false⟩ ⟨0, n, s⟩ = 0) := by show checkC _ _ = _; unfold checkC; rw [if_neg hnr, if_pos rfl]; simp [HK.out.1, HK.out.2]
          clear hnr
          go_enter Try.func98, Try.ntmps98
          go_wp2_with (go_at_call 87; refine (rightV_any _ _ _ _).mono ?_; rintro e w1 ⟨rfl, hb1⟩; rw [HR.out]; obtain ⟨⟨c0, c1, c2, c3⟩, ⟨d0, d1, d2⟩⟩ := colval_later hb1; have HB := Lib.hid (below_alloc_then (below_alloc_then hb1)); clear hb1)
          have kc0 := cell_regrown c0
          have kc1 := cell_regrown c1
          have kc2 := cell_regrown c2
          have kc3 := cell_regrown c3
          have kd0 := cell_regrown d0
          have kd1 := cell_regrown d1
          have kd2 := cell_regrown d2
          refine wp_region_quiet_below (by kernel_rfl) (by kernel_rfl) ?_
          repeat (go_big_quiet_step (first | fail))
          refine wpQuiet_nil ?_
          intro _ hw'
          obtain ⟨⟨dq, osq⟩, hw''⟩ := hw'
          subst hw''
          clear kc0 kc1 kc2 kc3 kd0 kd1 kd2
          have hb2 := below_regrown w1 dq osq
          generalize grow (redrawn w1 dq) osq = w2 at *
          replace c0 := cell_later hb2 c0
          replace c1 := cell_later hb2 c1
          replace c2 := cell_later hb2 c2
          replace c3 := cell_later hb2 c3
          replace d0 := cell_later hb2 d0
          replace d1 := cell_later hb2 d1
          replace d2 := cell_later hb2 d2
          go_wp2_with fail
          go_ret
          rw [HE.out]
          exact ⟨rfl, below_then HB.out hb2⟩
        · have HE : Hid (checkC ⟨nm, kd, ty, true⟩ ⟨0, n, s⟩ = 0) := by show checkC _ _ = _; unfold checkC; rw [if_neg hnr, if_pos rfl]; simp [HK.out.1, HK.out.2]
          clear hnr
          go_enter Try.func98, Try.ntmps98
          go_wp2_with (go_at_call 87; refine (rightV_any _ _ _ _).mono ?_; rintro e w1 ⟨rfl, hb1⟩; rw [HR.out]; obtain ⟨⟨c0, c1, c2, c3⟩, ⟨d0, d1, d2⟩⟩ := colval_later hb1; have HB := Lib.hid (below_alloc_then (below_alloc_then hb1)); clear hb1)
          have kc0 := cell_regrown c0
          have kc1 := cell_regrown c1
          have kc2 := cell_regrown c2
          have kc3 := cell_regrown c3
          have kd0 := cell_regrown d0
          have kd1 := cell_regrown d1
          have kd2 := cell_regrown d2
          refine wp_region_quiet_below (by kernel_rfl) (by kernel_rfl) ?_
          repeat (go_big_quiet_step (first | fail))
          refine wpQuiet_nil ?_
          intro _ hw'
          obtain ⟨⟨dq, osq⟩, hw''⟩ := hw'
          subst hw''
          clear kc0 kc1 kc2 kc3 kd0 kd1 kd2
          have hb2 := below_regrown w1 dq osq
          generalize grow (redrawn w1 dq) osq = w2 at *
          replace c0 := cell_later hb2 c0
          replace c1 := cell_later hb2 c1
          replace c2 := cell_later hb2 c2
          replace c3 := cell_later hb2 c3
          replace d0 := cell_later hb2 d0
          replace d1 := cell_later hb2 d1
          replace d2 := cell_later hb2 d2
          go_wp2_with fail
          go_ret
          rw [HE.out]
          exact ⟨rfl, below_then HB.out hb2⟩
      · have z0 : (k == 0) = false := by rw [beq_eq_false_iff_ne]; exact z
        have z1 : (k != 0) = true := by rw [bne_iff_ne]; exact z
        obtain ⟨q, hq⟩ : ∃ q, kindC ⟨nm, kd, ty, nl⟩ = q := ⟨_, rfl⟩
        have HQ := Lib.hid hq
        by_cases hkk : k = q
        · have HE : Hid (checkC ⟨nm, kd, ty, nl⟩ ⟨k, n, s⟩ = 0) := by show checkC _ _ = _; unfold checkC; rw [if_neg hnr, if_neg z, hq, if_pos hkk]
          have z2 : (k != q) = false := by rw [bne_eq_false_iff_eq]; exact hkk
          clear hnr hkk hq z
          go_enter Try.func98, Try.ntmps98
          go_wp2_with (go_at_call 87; refine (rightV_any _ _ _ _).mono ?_; rintro e w1 ⟨rfl, hb1⟩; rw [HR.out]; obtain ⟨⟨c0, c1, c2, c3⟩, ⟨d0, d1, d2⟩⟩ := colval_later hb1; have HB := Lib.hid (below_alloc_then (below_alloc_then hb1)); clear hb1)
          have cS : ∀ d os, Calls Try.prog 100 #[.agg #[.string nm, .int .i64 kd, .int .i64 ty, .bool nl]] (grow (redrawn w1 d) os) fun e w'' => e = .returned (.int .i64 (kindC ⟨nm, kd, ty, nl⟩)) ∧ ∃ p : Regrown, w'' = grow (redrawn w1 p.d) p.os := fun d os => Calls.regrown_of (kind_any _ _ _ _ _)
          rw [HQ.out] at cS
          have kc0 := cell_regrown c0
          have kc1 := cell_regrown c1
          have kc2 := cell_regrown c2
          have kc3 := cell_regrown c3
          have kd0 := cell_regrown d0
          have kd1 := cell_regrown d1
          have kd2 := cell_regrown d2
          refine wp_region_quiet_below (by kernel_rfl) (by kernel_rfl) ?_
          repeat (go_big_quiet_step (first | exact cS _ _))
          refine wpQuiet_nil ?_
          intro _ hw'
          obtain ⟨⟨dq, osq⟩, hw''⟩ := hw'
          subst hw''
          clear kc0 kc1 kc2 kc3 kd0 kd1 kd2 cS
          have hb2 := below_regrown w1 dq osq
          generalize grow (redrawn w1 dq) osq = w2 at *
          replace c0 := cell_later hb2 c0
          replace c1 := cell_later hb2 c1
          replace c2 := cell_later hb2 c2
          replace c3 := cell_later hb2 c3
          replace d0 := cell_later hb2 d0
          replace d1 := cell_later hb2 d1
          replace d2 := cell_later hb2 d2
          go_wp2_with fail
          go_ret
          rw [HE.out]
          exact ⟨rfl, below_then HB.out hb2⟩
        · have HE : Hid (checkC ⟨nm, kd, ty, nl⟩ ⟨k, n, s⟩ = 6) := by show checkC _ _ = _; unfold checkC; rw [if_neg hnr, if_neg z, hq, if_neg hkk]
          have z2 : (k != q) = true := by rw [bne_iff_ne]; exact hkk
          clear hnr hkk hq z
          go_enter Try.func98, Try.ntmps98
          go_wp2_with (go_at_call 87; refine (rightV_any _ _ _ _).mono ?_; rintro e w1 ⟨rfl, hb1⟩; rw [HR.out]; obtain ⟨⟨c0, c1, c2, c3⟩, ⟨d0, d1, d2⟩⟩ := colval_later hb1; have HB := Lib.hid (below_alloc_then (below_alloc_then hb1)); clear hb1)
          have cS : ∀ d os, Calls Try.prog 100 #[.agg #[.string nm, .int .i64 kd, .int .i64 ty, .bool nl]] (grow (redrawn w1 d) os) fun e w'' => e = .returned (.int .i64 (kindC ⟨nm, kd, ty, nl⟩)) ∧ ∃ p : Regrown, w'' = grow (redrawn w1 p.d) p.os := fun d os => Calls.regrown_of (kind_any _ _ _ _ _)
          rw [HQ.out] at cS
          have kc0 := cell_regrown c0
          have kc1 := cell_regrown c1
          have kc2 := cell_regrown c2
          have kc3 := cell_regrown c3
          have kd0 := cell_regrown d0
          have kd1 := cell_regrown d1
          have kd2 := cell_regrown d2
          refine wp_region_quiet_below (by kernel_rfl) (by kernel_rfl) ?_
          repeat (go_big_quiet_step (first | exact cS _ _))
          refine wpQuiet_nil ?_
          intro _ hw'
          obtain ⟨⟨dq, osq⟩, hw''⟩ := hw'
          subst hw''
          clear kc0 kc1 kc2 kc3 kd0 kd1 kd2 cS
          have hb2 := below_regrown w1 dq osq
          generalize grow (redrawn w1 dq) osq = w2 at *
          replace c0 := cell_later hb2 c0
          replace c1 := cell_later hb2 c1
          replace c2 := cell_later hb2 c2
          replace c3 := cell_later hb2 c3
          replace d0 := cell_later hb2 d0
          replace d1 := cell_later hb2 d1
          replace d2 := cell_later hb2 d2
          go_wp2_with fail
          go_ret
          rw [HE.out]
          exact ⟨rfl, below_then HB.out hb2⟩
end Go.Proofs.Ytliokkoalkhpaaa
