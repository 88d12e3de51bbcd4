/-
  The law MultiMeets.
-/
import Derived.Test.YtagbaejgjhmokaaBY
namespace Go.Proofs.Ytagbaejgjhmokaa.multiMeets
open Go.ChangeShapes Go.WideShapes Go.ChangeAt Go.RowKit Go.Sort Go.BigFrame Go.Proofs.Ytagbaejgjhmokaa
open Go.ChangeMaps (open_string shut_string)

theorem vecRight_b {v : Value} {l : List Int} {w : World} (b : Bool) (hb : rightVec l = b) (h : Rd w v l.length (l.map ic)) :
    Calls Try.prog 26 #[v] w fun e w' => e = .returned (.bool b) ∧ Below w.heap.size w w' := by
  have := vecRight_any v l w h
  rw [hb] at this
  exact this.mono fun _ _ ⟨h1, h2⟩ => ⟨h1, h2 ▸ Below.refl _ _⟩
theorem refUpto_t {va vb : Value} {a b : List Int} {w : World} (hr : UptoV a b) (ha : Rd w va a.length (a.map ic)) (hb : Rd w vb b.length (b.map ic)) (hla : a.length ≤ 1000000000000000) (hlb : b.length ≤ 1000000000000000) :
    Calls Try.prog 27 #[va, vb] w fun e w' => e = .returned (.bool true) ∧ Below w.heap.size w w' :=
  (refUpto_any va vb a b w ha hb hla hlb).mono fun _ _ ⟨r', h1, h2, h3⟩ => ⟨by rw [h1, h2.2 hr], h3 ▸ Below.refl _ _⟩
theorem refUpto_f {va vb : Value} {a b : List Int} {w : World} (hr : ¬ UptoV a b) (ha : Rd w va a.length (a.map ic)) (hb : Rd w vb b.length (b.map ic)) (hla : a.length ≤ 1000000000000000) (hlb : b.length ≤ 1000000000000000) :
    Calls Try.prog 27 #[va, vb] w fun e w' => e = .returned (.bool false) ∧ Below w.heap.size w w' :=
  (refUpto_any va vb a b w ha hb hla hlb).mono fun _ _ ⟨r', h1, h2, h3⟩ => ⟨by rw [h1, not_true'.2 fun h => hr (h2.1 h)], h3 ▸ Below.refl _ _⟩
theorem ofV_right {l : List Int} (h : rightVec l = true) (d : Int) : 0 ≤ ofV l d ∧ ofV l d ≤ 1048576 := by
  unfold rightVec at h
  simp only [Bool.and_eq_true, Bool.not_eq_true', List.any_eq_false] at h
  unfold ofV
  split
  · omega
  · rename_i hd
    have hlt : (d - 1).toNat < l.length := by omega
    have hm := h.2 _ (List.getElem_mem hlt)
    rw [List.getD_eq_getElem?_getD, List.getElem?_eq_getElem hlt]
    simp only [Option.getD_some]
    unfold badI at hm
    simp only [Bool.or_eq_true, decide_eq_true_eq, not_or] at hm
    omega
theorem has_iff {v : List Int} {u : Dt} : hasV v u = true ↔ 1 ≤ u.seq ∧ u.seq ≤ ofV v u.dev := by unfold hasV; simp
theorem meet_set {k0 : List Int} (hv : rightVec k0 = true) {dev : Int} (h1 : 1 ≤ dev) (u : Dt) : hasV (setL k0 dev (ofV k0 dev + 1)) u = true ↔ u = ⟨dev, ofV k0 dev + 1⟩ ∨ hasV k0 u = true := by
  rw [has_iff, has_iff, ofV_setL _ _ h1]
  have hb := ofV_right hv dev
  obtain ⟨a, q⟩ := u
  simp only [Dt.mk.injEq]
  by_cases he : a = dev
  · subst he
    rw [if_pos rfl]
    omega
  · rw [if_neg he]
    constructor
    · exact fun h => .inr h
    · rintro (⟨h, _⟩ | h)
      · exact absurd h he
      · exact h
theorem meet_of {c : List Prt} {k0 k1 k2 : List Int} (hr : Rise c) (hv : rightVec k0 = true) (hk : ∀ p ∈ c, hasV k0 p.d = true) (h1 : UptoV k1 k0) (h2 : UptoV k2 k0) :
    Meet c k0 k1 k2 (setL k0 1 (ofV k0 1 + 1)) (setL k0 2 (ofV k0 2 + 1)) ⟨1, ofV k0 1 + 1⟩ ⟨2, ofV k0 2 + 1⟩ where
  rise := hr
  known := hk
  le1 u h := by rw [has_iff] at h ⊢; have := h1 u.dev; omega
  le2 u h := by rw [has_iff] at h ⊢; have := h2 u.dev; omega
  ne h := by have := congrArg Dt.dev h; cases this
  nd := not_true'.2 fun h => by rw [has_iff] at h; have h' : ofV k0 1 + 1 ≤ ofV k0 1 := h.2; omega
  ne' := not_true'.2 fun h => by rw [has_iff] at h; have h' : ofV k0 2 + 1 ≤ ofV k0 2 := h.2; omega
  hx u := meet_set hv (by decide) u
  hy u := meet_set hv (by decide) u

set_option maxRecDepth 100000 in
set_option maxHeartbeats 8000000 in
theorem walk (kd1 : Int) (cv1 : Val) (va1 : Value) (l1 : List Prt) (a b : Val) (vz0 vz1 vz2 : Value) (z0 z1 z2 : List Int) (w : World) (ha1 : PRd w va1 l1) (hz0 : Rd w vz0 z0.length (z0.map ic)) (hz1 : Rd w vz1 z1.length (z1.map ic)) (hz2 : Rd w vz2 z2.length (z2.map ic)) (hq1 : z1.length ≤ 1000000000000000) (hq2 : z2.length ≤ 1000000000000000) :
    Calls Try.prog 9 #[.agg #[.int .i64 kd1, .int .i64 cv1.k, .int .i64 cv1.n, .string cv1.s, va1], .agg #[.int .i64 a.k, .int .i64 a.n, .string a.s, .int .i64 b.k, .int .i64 b.n, .string b.s], .agg #[vz0, vz1, vz2]] w fun e w' => e = .returned (.bool true) ∧ Below w.heap.size w w' := by
  obtain ⟨ck1, cn1, cs1⟩ := cv1
  obtain ⟨ao1, ca1, rfl, -, hcm1, -, -⟩ := id ha1
  unfold maxLen at hcm1
  obtain ⟨zo0, zc0, rfl, -, hzm0, -, -⟩ := id hz0
  unfold maxLen at hzm0
  obtain ⟨zo1, zc1, rfl, -, hzm1, -, -⟩ := id hz1
  unfold maxLen at hzm1
  obtain ⟨zo2, zc2, rfl, -, hzm2, -, -⟩ := id hz2
  unfold maxLen at hzm2
  obtain ⟨uk, un, us⟩ := a
  obtain ⟨xk, xn, xs⟩ := b
  obtain ⟨w1, hw1⟩ : ∃ w1, ((w.alloc (.cells #[(.int .i64 kd1), (.int .i64 ck1), (.int .i64 cn1), (.string cs1), (.slice ao1 l1.length ca1)] 26)).alloc (.cells #[(.int .i64 uk), (.int .i64 un), (.string us), (.int .i64 xk), (.int .i64 xn), (.string xs)] 50)).alloc (.cells #[(.slice zo0 z0.length zc0), (.slice zo1 z1.length zc1), (.slice zo2 z2.length zc2)] 51) = w1 := ⟨_, rfl⟩
  have hb1 : Below w.heap.size w w1 := by rw [← hw1]; exact below_alloc_then (below_alloc_then (below_alloc _ _))
  have b_c : Bx w1 (w.heap.size) #[(.int .i64 kd1), (.int .i64 ck1), (.int .i64 cn1), (.string cs1), (.slice ao1 l1.length ca1)] 26 := by rw [← hw1]; exact bx_later (below_alloc_then (below_alloc _ _)) (bx_new (by simp))
  have b_f : Bx w1 (w.heap.size + 1) #[(.int .i64 uk), (.int .i64 un), (.string us), (.int .i64 xk), (.int .i64 xn), (.string xs)] 50 := by rw [← hw1]; exact bx_later (below_alloc _ _) (bx_new (by simp))
  have b_y : Bx w1 (w.heap.size + 2) #[(.slice zo0 z0.length zc0), (.slice zo1 z1.length zc1), (.slice zo2 z2.length zc2)] 51 := by rw [← hw1]; exact bx_new (by simp)
  have HW := Lib.hid hw1
  have HB1 := Lib.hid hb1
  have HB := Lib.hid (Below.refl w1.heap.size w1)
  have B_c := Lib.hid b_c
  have B_f := Lib.hid b_f
  have B_y := Lib.hid b_y
  have c0 := cell_of_box (bx_later HB.out B_c.out) 0 rfl
  have c1 := cell_of_box (bx_later HB.out B_c.out) 1 rfl
  have c2 := cell_of_box (bx_later HB.out B_c.out) 2 rfl
  have c3 := cell_of_box (bx_later HB.out B_c.out) 3 rfl
  have c4 := cell_of_box (bx_later HB.out B_c.out) 4 rfl
  have f0 := cell_of_box (bx_later HB.out B_f.out) 0 rfl
  have f1 := cell_of_box (bx_later HB.out B_f.out) 1 rfl
  have f2 := cell_of_box (bx_later HB.out B_f.out) 2 rfl
  have f3 := cell_of_box (bx_later HB.out B_f.out) 3 rfl
  have f4 := cell_of_box (bx_later HB.out B_f.out) 4 rfl
  have f5 := cell_of_box (bx_later HB.out B_f.out) 5 rfl
  have y0 := cell_of_box (bx_later HB.out B_y.out) 0 rfl
  have y1 := cell_of_box (bx_later HB.out B_y.out) 1 rfl
  have y2 := cell_of_box (bx_later HB.out B_y.out) 2 rfl
  clear hw1 hb1 b_c b_f b_y
  have P1 := Lib.hid (ha1.later HB1.out)
  have Z0 := Lib.hid (hz0.later HB1.out)
  have Z1 := Lib.hid (hz1.later HB1.out)
  have Z2 := Lib.hid (hz2.later HB1.out)
  clear ha1 hz0 hz1 hz2
  cases hf0 : decide ((l1.length : Int) ≤ 60)
  all_goals
    have F0 := Lib.hid hf0
  · clear hf0
    go_enter Try.func9, Try.ntmps9
    go_wp2_with fail
    rw [HW.out]
    go_wp2_with fail
    refine (few_p false F0.out (P1.out.later HB.out)).mono ?_
    rintro e wn ⟨rfl, hb⟩
    replace HB := Lib.hid (below_then HB.out (by first | exact hb | exact below_alloc_then hb | exact below_alloc_then (below_alloc_then hb)))
    clear hb c0 c1 c2 c3 c4 f0 f1 f2 f3 f4 f5 y0 y1 y2
    have c0 := cell_of_box (bx_later HB.out B_c.out) 0 rfl
    have c1 := cell_of_box (bx_later HB.out B_c.out) 1 rfl
    have c2 := cell_of_box (bx_later HB.out B_c.out) 2 rfl
    have c3 := cell_of_box (bx_later HB.out B_c.out) 3 rfl
    have c4 := cell_of_box (bx_later HB.out B_c.out) 4 rfl
    have f0 := cell_of_box (bx_later HB.out B_f.out) 0 rfl
    have f1 := cell_of_box (bx_later HB.out B_f.out) 1 rfl
    have f2 := cell_of_box (bx_later HB.out B_f.out) 2 rfl
    have f3 := cell_of_box (bx_later HB.out B_f.out) 3 rfl
    have f4 := cell_of_box (bx_later HB.out B_f.out) 4 rfl
    have f5 := cell_of_box (bx_later HB.out B_f.out) 5 rfl
    have y0 := cell_of_box (bx_later HB.out B_y.out) 0 rfl
    have y1 := cell_of_box (bx_later HB.out B_y.out) 1 rfl
    have y2 := cell_of_box (bx_later HB.out B_y.out) 2 rfl
    go_wp2_with fail
    refine (alive_any _).mono ?_
    rintro e wn ⟨rfl, hb⟩
    replace HB := Lib.hid (below_then HB.out (by first | exact hb | exact below_alloc_then hb | exact below_alloc_then (below_alloc_then hb)))
    clear hb c0 c1 c2 c3 c4 f0 f1 f2 f3 f4 f5 y0 y1 y2
    have c0 := cell_of_box (bx_later HB.out B_c.out) 0 rfl
    have c1 := cell_of_box (bx_later HB.out B_c.out) 1 rfl
    have c2 := cell_of_box (bx_later HB.out B_c.out) 2 rfl
    have c3 := cell_of_box (bx_later HB.out B_c.out) 3 rfl
    have c4 := cell_of_box (bx_later HB.out B_c.out) 4 rfl
    have f0 := cell_of_box (bx_later HB.out B_f.out) 0 rfl
    have f1 := cell_of_box (bx_later HB.out B_f.out) 1 rfl
    have f2 := cell_of_box (bx_later HB.out B_f.out) 2 rfl
    have f3 := cell_of_box (bx_later HB.out B_f.out) 3 rfl
    have f4 := cell_of_box (bx_later HB.out B_f.out) 4 rfl
    have f5 := cell_of_box (bx_later HB.out B_f.out) 5 rfl
    have y0 := cell_of_box (bx_later HB.out B_y.out) 0 rfl
    have y1 := cell_of_box (bx_later HB.out B_y.out) 1 rfl
    have y2 := cell_of_box (bx_later HB.out B_y.out) 2 rfl
    go_wp2_with fail
    go_ret
    exact ⟨by first | rfl | exact ret_bool (by simp), below_then HB1.out HB.out⟩
  · have hl0 : l1.length ≤ 60 := by have := of_decide_eq_true hf0; omega
    clear hf0
    by_cases hlen1 : 60 < z0.length
    · have g1z0 : decide (60 < (z0.length : Int)) = true := decide_eq_true (by omega)
      have g2z0 : decide (60 < z0.length) = true := decide_eq_true (by omega)
      go_enter Try.func9, Try.ntmps9
      go_wp2_with fail
      rw [HW.out]
      go_wp2_with fail
      refine (few_p true F0.out (P1.out.later HB.out)).mono ?_
      rintro e wn ⟨rfl, hb⟩
      replace HB := Lib.hid (below_then HB.out (by first | exact hb | exact below_alloc_then hb | exact below_alloc_then (below_alloc_then hb)))
      clear hb c0 c1 c2 c3 c4 f0 f1 f2 f3 f4 f5 y0 y1 y2
      have c0 := cell_of_box (bx_later HB.out B_c.out) 0 rfl
      have c1 := cell_of_box (bx_later HB.out B_c.out) 1 rfl
      have c2 := cell_of_box (bx_later HB.out B_c.out) 2 rfl
      have c3 := cell_of_box (bx_later HB.out B_c.out) 3 rfl
      have c4 := cell_of_box (bx_later HB.out B_c.out) 4 rfl
      have f0 := cell_of_box (bx_later HB.out B_f.out) 0 rfl
      have f1 := cell_of_box (bx_later HB.out B_f.out) 1 rfl
      have f2 := cell_of_box (bx_later HB.out B_f.out) 2 rfl
      have f3 := cell_of_box (bx_later HB.out B_f.out) 3 rfl
      have f4 := cell_of_box (bx_later HB.out B_f.out) 4 rfl
      have f5 := cell_of_box (bx_later HB.out B_f.out) 5 rfl
      have y0 := cell_of_box (bx_later HB.out B_y.out) 0 rfl
      have y1 := cell_of_box (bx_later HB.out B_y.out) 1 rfl
      have y2 := cell_of_box (bx_later HB.out B_y.out) 2 rfl
      go_wp2_with fail
      refine (alive_any _).mono ?_
      rintro e wn ⟨rfl, hb⟩
      replace HB := Lib.hid (below_then HB.out (by first | exact hb | exact below_alloc_then hb | exact below_alloc_then (below_alloc_then hb)))
      clear hb c0 c1 c2 c3 c4 f0 f1 f2 f3 f4 f5 y0 y1 y2
      have c0 := cell_of_box (bx_later HB.out B_c.out) 0 rfl
      have c1 := cell_of_box (bx_later HB.out B_c.out) 1 rfl
      have c2 := cell_of_box (bx_later HB.out B_c.out) 2 rfl
      have c3 := cell_of_box (bx_later HB.out B_c.out) 3 rfl
      have c4 := cell_of_box (bx_later HB.out B_c.out) 4 rfl
      have f0 := cell_of_box (bx_later HB.out B_f.out) 0 rfl
      have f1 := cell_of_box (bx_later HB.out B_f.out) 1 rfl
      have f2 := cell_of_box (bx_later HB.out B_f.out) 2 rfl
      have f3 := cell_of_box (bx_later HB.out B_f.out) 3 rfl
      have f4 := cell_of_box (bx_later HB.out B_f.out) 4 rfl
      have f5 := cell_of_box (bx_later HB.out B_f.out) 5 rfl
      have y0 := cell_of_box (bx_later HB.out B_y.out) 0 rfl
      have y1 := cell_of_box (bx_later HB.out B_y.out) 1 rfl
      have y2 := cell_of_box (bx_later HB.out B_y.out) 2 rfl
      go_wp2_with fail
      go_ret
      exact ⟨by first | rfl | exact ret_bool (by simp), below_then HB1.out HB.out⟩
    · have g1z0 : decide (60 < (z0.length : Int)) = false := decide_eq_false (by omega)
      have g2z0 : decide (60 < z0.length) = false := decide_eq_false (by omega)
      cases hr2 : rightVec z0
      all_goals
        have F2 := Lib.hid hr2
        clear hr2
      · go_enter Try.func9, Try.ntmps9
        go_wp2_with fail
        rw [HW.out]
        go_wp2_with fail
        refine (few_p true F0.out (P1.out.later HB.out)).mono ?_
        rintro e wn ⟨rfl, hb⟩
        replace HB := Lib.hid (below_then HB.out (by first | exact hb | exact below_alloc_then hb | exact below_alloc_then (below_alloc_then hb)))
        clear hb c0 c1 c2 c3 c4 f0 f1 f2 f3 f4 f5 y0 y1 y2
        have c0 := cell_of_box (bx_later HB.out B_c.out) 0 rfl
        have c1 := cell_of_box (bx_later HB.out B_c.out) 1 rfl
        have c2 := cell_of_box (bx_later HB.out B_c.out) 2 rfl
        have c3 := cell_of_box (bx_later HB.out B_c.out) 3 rfl
        have c4 := cell_of_box (bx_later HB.out B_c.out) 4 rfl
        have f0 := cell_of_box (bx_later HB.out B_f.out) 0 rfl
        have f1 := cell_of_box (bx_later HB.out B_f.out) 1 rfl
        have f2 := cell_of_box (bx_later HB.out B_f.out) 2 rfl
        have f3 := cell_of_box (bx_later HB.out B_f.out) 3 rfl
        have f4 := cell_of_box (bx_later HB.out B_f.out) 4 rfl
        have f5 := cell_of_box (bx_later HB.out B_f.out) 5 rfl
        have y0 := cell_of_box (bx_later HB.out B_y.out) 0 rfl
        have y1 := cell_of_box (bx_later HB.out B_y.out) 1 rfl
        have y2 := cell_of_box (bx_later HB.out B_y.out) 2 rfl
        go_wp2_with fail
        refine (vecRight_b false F2.out (Z0.out.later HB.out)).mono ?_
        rintro e wn ⟨rfl, hb⟩
        replace HB := Lib.hid (below_then HB.out (by first | exact hb | exact below_alloc_then hb | exact below_alloc_then (below_alloc_then hb)))
        clear hb c0 c1 c2 c3 c4 f0 f1 f2 f3 f4 f5 y0 y1 y2
        have c0 := cell_of_box (bx_later HB.out B_c.out) 0 rfl
        have c1 := cell_of_box (bx_later HB.out B_c.out) 1 rfl
        have c2 := cell_of_box (bx_later HB.out B_c.out) 2 rfl
        have c3 := cell_of_box (bx_later HB.out B_c.out) 3 rfl
        have c4 := cell_of_box (bx_later HB.out B_c.out) 4 rfl
        have f0 := cell_of_box (bx_later HB.out B_f.out) 0 rfl
        have f1 := cell_of_box (bx_later HB.out B_f.out) 1 rfl
        have f2 := cell_of_box (bx_later HB.out B_f.out) 2 rfl
        have f3 := cell_of_box (bx_later HB.out B_f.out) 3 rfl
        have f4 := cell_of_box (bx_later HB.out B_f.out) 4 rfl
        have f5 := cell_of_box (bx_later HB.out B_f.out) 5 rfl
        have y0 := cell_of_box (bx_later HB.out B_y.out) 0 rfl
        have y1 := cell_of_box (bx_later HB.out B_y.out) 1 rfl
        have y2 := cell_of_box (bx_later HB.out B_y.out) 2 rfl
        go_wp2_with fail
        refine (alive_any _).mono ?_
        rintro e wn ⟨rfl, hb⟩
        replace HB := Lib.hid (below_then HB.out (by first | exact hb | exact below_alloc_then hb | exact below_alloc_then (below_alloc_then hb)))
        clear hb c0 c1 c2 c3 c4 f0 f1 f2 f3 f4 f5 y0 y1 y2
        have c0 := cell_of_box (bx_later HB.out B_c.out) 0 rfl
        have c1 := cell_of_box (bx_later HB.out B_c.out) 1 rfl
        have c2 := cell_of_box (bx_later HB.out B_c.out) 2 rfl
        have c3 := cell_of_box (bx_later HB.out B_c.out) 3 rfl
        have c4 := cell_of_box (bx_later HB.out B_c.out) 4 rfl
        have f0 := cell_of_box (bx_later HB.out B_f.out) 0 rfl
        have f1 := cell_of_box (bx_later HB.out B_f.out) 1 rfl
        have f2 := cell_of_box (bx_later HB.out B_f.out) 2 rfl
        have f3 := cell_of_box (bx_later HB.out B_f.out) 3 rfl
        have f4 := cell_of_box (bx_later HB.out B_f.out) 4 rfl
        have f5 := cell_of_box (bx_later HB.out B_f.out) 5 rfl
        have y0 := cell_of_box (bx_later HB.out B_y.out) 0 rfl
        have y1 := cell_of_box (bx_later HB.out B_y.out) 1 rfl
        have y2 := cell_of_box (bx_later HB.out B_y.out) 2 rfl
        go_wp2_with fail
        go_ret
        exact ⟨by first | rfl | exact ret_bool (by simp), below_then HB1.out HB.out⟩
      · cases hr3 : rcB kd1 ⟨ck1, cn1, cs1⟩ l1
        all_goals
          have F3 := Lib.hid hr3
          clear hr3
        · go_enter Try.func9, Try.ntmps9
          go_wp2_with fail
          rw [HW.out]
          go_wp2_with fail
          refine (few_p true F0.out (P1.out.later HB.out)).mono ?_
          rintro e wn ⟨rfl, hb⟩
          replace HB := Lib.hid (below_then HB.out (by first | exact hb | exact below_alloc_then hb | exact below_alloc_then (below_alloc_then hb)))
          clear hb c0 c1 c2 c3 c4 f0 f1 f2 f3 f4 f5 y0 y1 y2
          have c0 := cell_of_box (bx_later HB.out B_c.out) 0 rfl
          have c1 := cell_of_box (bx_later HB.out B_c.out) 1 rfl
          have c2 := cell_of_box (bx_later HB.out B_c.out) 2 rfl
          have c3 := cell_of_box (bx_later HB.out B_c.out) 3 rfl
          have c4 := cell_of_box (bx_later HB.out B_c.out) 4 rfl
          have f0 := cell_of_box (bx_later HB.out B_f.out) 0 rfl
          have f1 := cell_of_box (bx_later HB.out B_f.out) 1 rfl
          have f2 := cell_of_box (bx_later HB.out B_f.out) 2 rfl
          have f3 := cell_of_box (bx_later HB.out B_f.out) 3 rfl
          have f4 := cell_of_box (bx_later HB.out B_f.out) 4 rfl
          have f5 := cell_of_box (bx_later HB.out B_f.out) 5 rfl
          have y0 := cell_of_box (bx_later HB.out B_y.out) 0 rfl
          have y1 := cell_of_box (bx_later HB.out B_y.out) 1 rfl
          have y2 := cell_of_box (bx_later HB.out B_y.out) 2 rfl
          go_wp2_with fail
          refine (vecRight_b true F2.out (Z0.out.later HB.out)).mono ?_
          rintro e wn ⟨rfl, hb⟩
          replace HB := Lib.hid (below_then HB.out (by first | exact hb | exact below_alloc_then hb | exact below_alloc_then (below_alloc_then hb)))
          clear hb c0 c1 c2 c3 c4 f0 f1 f2 f3 f4 f5 y0 y1 y2
          have c0 := cell_of_box (bx_later HB.out B_c.out) 0 rfl
          have c1 := cell_of_box (bx_later HB.out B_c.out) 1 rfl
          have c2 := cell_of_box (bx_later HB.out B_c.out) 2 rfl
          have c3 := cell_of_box (bx_later HB.out B_c.out) 3 rfl
          have c4 := cell_of_box (bx_later HB.out B_c.out) 4 rfl
          have f0 := cell_of_box (bx_later HB.out B_f.out) 0 rfl
          have f1 := cell_of_box (bx_later HB.out B_f.out) 1 rfl
          have f2 := cell_of_box (bx_later HB.out B_f.out) 2 rfl
          have f3 := cell_of_box (bx_later HB.out B_f.out) 3 rfl
          have f4 := cell_of_box (bx_later HB.out B_f.out) 4 rfl
          have f5 := cell_of_box (bx_later HB.out B_f.out) 5 rfl
          have y0 := cell_of_box (bx_later HB.out B_y.out) 0 rfl
          have y1 := cell_of_box (bx_later HB.out B_y.out) 1 rfl
          have y2 := cell_of_box (bx_later HB.out B_y.out) 2 rfl
          go_wp2_with fail
          refine (right_b false F3.out (P1.out.later HB.out) (by omega)).mono ?_
          rintro e wn ⟨rfl, hb⟩
          replace HB := Lib.hid (below_then HB.out (by first | exact hb | exact below_alloc_then hb | exact below_alloc_then (below_alloc_then hb)))
          clear hb c0 c1 c2 c3 c4 f0 f1 f2 f3 f4 f5 y0 y1 y2
          have c0 := cell_of_box (bx_later HB.out B_c.out) 0 rfl
          have c1 := cell_of_box (bx_later HB.out B_c.out) 1 rfl
          have c2 := cell_of_box (bx_later HB.out B_c.out) 2 rfl
          have c3 := cell_of_box (bx_later HB.out B_c.out) 3 rfl
          have c4 := cell_of_box (bx_later HB.out B_c.out) 4 rfl
          have f0 := cell_of_box (bx_later HB.out B_f.out) 0 rfl
          have f1 := cell_of_box (bx_later HB.out B_f.out) 1 rfl
          have f2 := cell_of_box (bx_later HB.out B_f.out) 2 rfl
          have f3 := cell_of_box (bx_later HB.out B_f.out) 3 rfl
          have f4 := cell_of_box (bx_later HB.out B_f.out) 4 rfl
          have f5 := cell_of_box (bx_later HB.out B_f.out) 5 rfl
          have y0 := cell_of_box (bx_later HB.out B_y.out) 0 rfl
          have y1 := cell_of_box (bx_later HB.out B_y.out) 1 rfl
          have y2 := cell_of_box (bx_later HB.out B_y.out) 2 rfl
          go_wp2_with fail
          refine (alive_any _).mono ?_
          rintro e wn ⟨rfl, hb⟩
          replace HB := Lib.hid (below_then HB.out (by first | exact hb | exact below_alloc_then hb | exact below_alloc_then (below_alloc_then hb)))
          clear hb c0 c1 c2 c3 c4 f0 f1 f2 f3 f4 f5 y0 y1 y2
          have c0 := cell_of_box (bx_later HB.out B_c.out) 0 rfl
          have c1 := cell_of_box (bx_later HB.out B_c.out) 1 rfl
          have c2 := cell_of_box (bx_later HB.out B_c.out) 2 rfl
          have c3 := cell_of_box (bx_later HB.out B_c.out) 3 rfl
          have c4 := cell_of_box (bx_later HB.out B_c.out) 4 rfl
          have f0 := cell_of_box (bx_later HB.out B_f.out) 0 rfl
          have f1 := cell_of_box (bx_later HB.out B_f.out) 1 rfl
          have f2 := cell_of_box (bx_later HB.out B_f.out) 2 rfl
          have f3 := cell_of_box (bx_later HB.out B_f.out) 3 rfl
          have f4 := cell_of_box (bx_later HB.out B_f.out) 4 rfl
          have f5 := cell_of_box (bx_later HB.out B_f.out) 5 rfl
          have y0 := cell_of_box (bx_later HB.out B_y.out) 0 rfl
          have y1 := cell_of_box (bx_later HB.out B_y.out) 1 rfl
          have y2 := cell_of_box (bx_later HB.out B_y.out) 2 rfl
          go_wp2_with fail
          go_ret
          exact ⟨by first | rfl | exact ret_bool (by simp), below_then HB1.out HB.out⟩
        · by_cases hu4 : UptoV z1 z0
          · have F4 := Lib.hid hu4
            clear hu4
            by_cases hu5 : UptoV z2 z0
            · have F5 := Lib.hid hu5
              clear hu5
              by_cases hlen6 : 100 < z1.length
              · have g1z1 : decide (100 < (z1.length : Int)) = true := decide_eq_true (by omega)
                have g2z1 : decide (100 < z1.length) = true := decide_eq_true (by omega)
                go_enter Try.func9, Try.ntmps9
                go_wp2_with fail
                rw [HW.out]
                go_wp2_with fail
                refine (few_p true F0.out (P1.out.later HB.out)).mono ?_
                rintro e wn ⟨rfl, hb⟩
                replace HB := Lib.hid (below_then HB.out (by first | exact hb | exact below_alloc_then hb | exact below_alloc_then (below_alloc_then hb)))
                clear hb c0 c1 c2 c3 c4 f0 f1 f2 f3 f4 f5 y0 y1 y2
                have c0 := cell_of_box (bx_later HB.out B_c.out) 0 rfl
                have c1 := cell_of_box (bx_later HB.out B_c.out) 1 rfl
                have c2 := cell_of_box (bx_later HB.out B_c.out) 2 rfl
                have c3 := cell_of_box (bx_later HB.out B_c.out) 3 rfl
                have c4 := cell_of_box (bx_later HB.out B_c.out) 4 rfl
                have f0 := cell_of_box (bx_later HB.out B_f.out) 0 rfl
                have f1 := cell_of_box (bx_later HB.out B_f.out) 1 rfl
                have f2 := cell_of_box (bx_later HB.out B_f.out) 2 rfl
                have f3 := cell_of_box (bx_later HB.out B_f.out) 3 rfl
                have f4 := cell_of_box (bx_later HB.out B_f.out) 4 rfl
                have f5 := cell_of_box (bx_later HB.out B_f.out) 5 rfl
                have y0 := cell_of_box (bx_later HB.out B_y.out) 0 rfl
                have y1 := cell_of_box (bx_later HB.out B_y.out) 1 rfl
                have y2 := cell_of_box (bx_later HB.out B_y.out) 2 rfl
                go_wp2_with fail
                refine (vecRight_b true F2.out (Z0.out.later HB.out)).mono ?_
                rintro e wn ⟨rfl, hb⟩
                replace HB := Lib.hid (below_then HB.out (by first | exact hb | exact below_alloc_then hb | exact below_alloc_then (below_alloc_then hb)))
                clear hb c0 c1 c2 c3 c4 f0 f1 f2 f3 f4 f5 y0 y1 y2
                have c0 := cell_of_box (bx_later HB.out B_c.out) 0 rfl
                have c1 := cell_of_box (bx_later HB.out B_c.out) 1 rfl
                have c2 := cell_of_box (bx_later HB.out B_c.out) 2 rfl
                have c3 := cell_of_box (bx_later HB.out B_c.out) 3 rfl
                have c4 := cell_of_box (bx_later HB.out B_c.out) 4 rfl
                have f0 := cell_of_box (bx_later HB.out B_f.out) 0 rfl
                have f1 := cell_of_box (bx_later HB.out B_f.out) 1 rfl
                have f2 := cell_of_box (bx_later HB.out B_f.out) 2 rfl
                have f3 := cell_of_box (bx_later HB.out B_f.out) 3 rfl
                have f4 := cell_of_box (bx_later HB.out B_f.out) 4 rfl
                have f5 := cell_of_box (bx_later HB.out B_f.out) 5 rfl
                have y0 := cell_of_box (bx_later HB.out B_y.out) 0 rfl
                have y1 := cell_of_box (bx_later HB.out B_y.out) 1 rfl
                have y2 := cell_of_box (bx_later HB.out B_y.out) 2 rfl
                go_wp2_with fail
                refine (right_b true F3.out (P1.out.later HB.out) (by omega)).mono ?_
                rintro e wn ⟨rfl, hb⟩
                replace HB := Lib.hid (below_then HB.out (by first | exact hb | exact below_alloc_then hb | exact below_alloc_then (below_alloc_then hb)))
                clear hb c0 c1 c2 c3 c4 f0 f1 f2 f3 f4 f5 y0 y1 y2
                have c0 := cell_of_box (bx_later HB.out B_c.out) 0 rfl
                have c1 := cell_of_box (bx_later HB.out B_c.out) 1 rfl
                have c2 := cell_of_box (bx_later HB.out B_c.out) 2 rfl
                have c3 := cell_of_box (bx_later HB.out B_c.out) 3 rfl
                have c4 := cell_of_box (bx_later HB.out B_c.out) 4 rfl
                have f0 := cell_of_box (bx_later HB.out B_f.out) 0 rfl
                have f1 := cell_of_box (bx_later HB.out B_f.out) 1 rfl
                have f2 := cell_of_box (bx_later HB.out B_f.out) 2 rfl
                have f3 := cell_of_box (bx_later HB.out B_f.out) 3 rfl
                have f4 := cell_of_box (bx_later HB.out B_f.out) 4 rfl
                have f5 := cell_of_box (bx_later HB.out B_f.out) 5 rfl
                have y0 := cell_of_box (bx_later HB.out B_y.out) 0 rfl
                have y1 := cell_of_box (bx_later HB.out B_y.out) 1 rfl
                have y2 := cell_of_box (bx_later HB.out B_y.out) 2 rfl
                go_wp2_with fail
                refine (refUpto_t F4.out (Z1.out.later HB.out) (Z0.out.later HB.out) (by omega) (by omega)).mono ?_
                rintro e wn ⟨rfl, hb⟩
                replace HB := Lib.hid (below_then HB.out (by first | exact hb | exact below_alloc_then hb | exact below_alloc_then (below_alloc_then hb)))
                clear hb c0 c1 c2 c3 c4 f0 f1 f2 f3 f4 f5 y0 y1 y2
                have c0 := cell_of_box (bx_later HB.out B_c.out) 0 rfl
                have c1 := cell_of_box (bx_later HB.out B_c.out) 1 rfl
                have c2 := cell_of_box (bx_later HB.out B_c.out) 2 rfl
                have c3 := cell_of_box (bx_later HB.out B_c.out) 3 rfl
                have c4 := cell_of_box (bx_later HB.out B_c.out) 4 rfl
                have f0 := cell_of_box (bx_later HB.out B_f.out) 0 rfl
                have f1 := cell_of_box (bx_later HB.out B_f.out) 1 rfl
                have f2 := cell_of_box (bx_later HB.out B_f.out) 2 rfl
                have f3 := cell_of_box (bx_later HB.out B_f.out) 3 rfl
                have f4 := cell_of_box (bx_later HB.out B_f.out) 4 rfl
                have f5 := cell_of_box (bx_later HB.out B_f.out) 5 rfl
                have y0 := cell_of_box (bx_later HB.out B_y.out) 0 rfl
                have y1 := cell_of_box (bx_later HB.out B_y.out) 1 rfl
                have y2 := cell_of_box (bx_later HB.out B_y.out) 2 rfl
                go_wp2_with fail
                refine (refUpto_t F5.out (Z2.out.later HB.out) (Z0.out.later HB.out) (by omega) (by omega)).mono ?_
                rintro e wn ⟨rfl, hb⟩
                replace HB := Lib.hid (below_then HB.out (by first | exact hb | exact below_alloc_then hb | exact below_alloc_then (below_alloc_then hb)))
                clear hb c0 c1 c2 c3 c4 f0 f1 f2 f3 f4 f5 y0 y1 y2
                have c0 := cell_of_box (bx_later HB.out B_c.out) 0 rfl
                have c1 := cell_of_box (bx_later HB.out B_c.out) 1 rfl
                have c2 := cell_of_box (bx_later HB.out B_c.out) 2 rfl
                have c3 := cell_of_box (bx_later HB.out B_c.out) 3 rfl
                have c4 := cell_of_box (bx_later HB.out B_c.out) 4 rfl
                have f0 := cell_of_box (bx_later HB.out B_f.out) 0 rfl
                have f1 := cell_of_box (bx_later HB.out B_f.out) 1 rfl
                have f2 := cell_of_box (bx_later HB.out B_f.out) 2 rfl
                have f3 := cell_of_box (bx_later HB.out B_f.out) 3 rfl
                have f4 := cell_of_box (bx_later HB.out B_f.out) 4 rfl
                have f5 := cell_of_box (bx_later HB.out B_f.out) 5 rfl
                have y0 := cell_of_box (bx_later HB.out B_y.out) 0 rfl
                have y1 := cell_of_box (bx_later HB.out B_y.out) 1 rfl
                have y2 := cell_of_box (bx_later HB.out B_y.out) 2 rfl
                go_wp2_with fail
                refine (alive_any _).mono ?_
                rintro e wn ⟨rfl, hb⟩
                replace HB := Lib.hid (below_then HB.out (by first | exact hb | exact below_alloc_then hb | exact below_alloc_then (below_alloc_then hb)))
                clear hb c0 c1 c2 c3 c4 f0 f1 f2 f3 f4 f5 y0 y1 y2
                have c0 := cell_of_box (bx_later HB.out B_c.out) 0 rfl
                have c1 := cell_of_box (bx_later HB.out B_c.out) 1 rfl
                have c2 := cell_of_box (bx_later HB.out B_c.out) 2 rfl
                have c3 := cell_of_box (bx_later HB.out B_c.out) 3 rfl
                have c4 := cell_of_box (bx_later HB.out B_c.out) 4 rfl
                have f0 := cell_of_box (bx_later HB.out B_f.out) 0 rfl
                have f1 := cell_of_box (bx_later HB.out B_f.out) 1 rfl
                have f2 := cell_of_box (bx_later HB.out B_f.out) 2 rfl
                have f3 := cell_of_box (bx_later HB.out B_f.out) 3 rfl
                have f4 := cell_of_box (bx_later HB.out B_f.out) 4 rfl
                have f5 := cell_of_box (bx_later HB.out B_f.out) 5 rfl
                have y0 := cell_of_box (bx_later HB.out B_y.out) 0 rfl
                have y1 := cell_of_box (bx_later HB.out B_y.out) 1 rfl
                have y2 := cell_of_box (bx_later HB.out B_y.out) 2 rfl
                go_wp2_with fail
                go_ret
                exact ⟨by first | rfl | exact ret_bool (by simp), below_then HB1.out HB.out⟩
              · have g1z1 : decide (100 < (z1.length : Int)) = false := decide_eq_false (by omega)
                have g2z1 : decide (100 < z1.length) = false := decide_eq_false (by omega)
                by_cases hlen7 : 100 < z2.length
                · have g1z2 : decide (100 < (z2.length : Int)) = true := decide_eq_true (by omega)
                  have g2z2 : decide (100 < z2.length) = true := decide_eq_true (by omega)
                  go_enter Try.func9, Try.ntmps9
                  go_wp2_with fail
                  rw [HW.out]
                  go_wp2_with fail
                  refine (few_p true F0.out (P1.out.later HB.out)).mono ?_
                  rintro e wn ⟨rfl, hb⟩
                  replace HB := Lib.hid (below_then HB.out (by first | exact hb | exact below_alloc_then hb | exact below_alloc_then (below_alloc_then hb)))
                  clear hb c0 c1 c2 c3 c4 f0 f1 f2 f3 f4 f5 y0 y1 y2
                  have c0 := cell_of_box (bx_later HB.out B_c.out) 0 rfl
                  have c1 := cell_of_box (bx_later HB.out B_c.out) 1 rfl
                  have c2 := cell_of_box (bx_later HB.out B_c.out) 2 rfl
                  have c3 := cell_of_box (bx_later HB.out B_c.out) 3 rfl
                  have c4 := cell_of_box (bx_later HB.out B_c.out) 4 rfl
                  have f0 := cell_of_box (bx_later HB.out B_f.out) 0 rfl
                  have f1 := cell_of_box (bx_later HB.out B_f.out) 1 rfl
                  have f2 := cell_of_box (bx_later HB.out B_f.out) 2 rfl
                  have f3 := cell_of_box (bx_later HB.out B_f.out) 3 rfl
                  have f4 := cell_of_box (bx_later HB.out B_f.out) 4 rfl
                  have f5 := cell_of_box (bx_later HB.out B_f.out) 5 rfl
                  have y0 := cell_of_box (bx_later HB.out B_y.out) 0 rfl
                  have y1 := cell_of_box (bx_later HB.out B_y.out) 1 rfl
                  have y2 := cell_of_box (bx_later HB.out B_y.out) 2 rfl
                  go_wp2_with fail
                  refine (vecRight_b true F2.out (Z0.out.later HB.out)).mono ?_
                  rintro e wn ⟨rfl, hb⟩
                  replace HB := Lib.hid (below_then HB.out (by first | exact hb | exact below_alloc_then hb | exact below_alloc_then (below_alloc_then hb)))
                  clear hb c0 c1 c2 c3 c4 f0 f1 f2 f3 f4 f5 y0 y1 y2
                  have c0 := cell_of_box (bx_later HB.out B_c.out) 0 rfl
                  have c1 := cell_of_box (bx_later HB.out B_c.out) 1 rfl
                  have c2 := cell_of_box (bx_later HB.out B_c.out) 2 rfl
                  have c3 := cell_of_box (bx_later HB.out B_c.out) 3 rfl
                  have c4 := cell_of_box (bx_later HB.out B_c.out) 4 rfl
                  have f0 := cell_of_box (bx_later HB.out B_f.out) 0 rfl
                  have f1 := cell_of_box (bx_later HB.out B_f.out) 1 rfl
                  have f2 := cell_of_box (bx_later HB.out B_f.out) 2 rfl
                  have f3 := cell_of_box (bx_later HB.out B_f.out) 3 rfl
                  have f4 := cell_of_box (bx_later HB.out B_f.out) 4 rfl
                  have f5 := cell_of_box (bx_later HB.out B_f.out) 5 rfl
                  have y0 := cell_of_box (bx_later HB.out B_y.out) 0 rfl
                  have y1 := cell_of_box (bx_later HB.out B_y.out) 1 rfl
                  have y2 := cell_of_box (bx_later HB.out B_y.out) 2 rfl
                  go_wp2_with fail
                  refine (right_b true F3.out (P1.out.later HB.out) (by omega)).mono ?_
                  rintro e wn ⟨rfl, hb⟩
                  replace HB := Lib.hid (below_then HB.out (by first | exact hb | exact below_alloc_then hb | exact below_alloc_then (below_alloc_then hb)))
                  clear hb c0 c1 c2 c3 c4 f0 f1 f2 f3 f4 f5 y0 y1 y2
                  have c0 := cell_of_box (bx_later HB.out B_c.out) 0 rfl
                  have c1 := cell_of_box (bx_later HB.out B_c.out) 1 rfl
                  have c2 := cell_of_box (bx_later HB.out B_c.out) 2 rfl
                  have c3 := cell_of_box (bx_later HB.out B_c.out) 3 rfl
                  have c4 := cell_of_box (bx_later HB.out B_c.out) 4 rfl
                  have f0 := cell_of_box (bx_later HB.out B_f.out) 0 rfl
                  have f1 := cell_of_box (bx_later HB.out B_f.out) 1 rfl
                  have f2 := cell_of_box (bx_later HB.out B_f.out) 2 rfl
                  have f3 := cell_of_box (bx_later HB.out B_f.out) 3 rfl
                  have f4 := cell_of_box (bx_later HB.out B_f.out) 4 rfl
                  have f5 := cell_of_box (bx_later HB.out B_f.out) 5 rfl
                  have y0 := cell_of_box (bx_later HB.out B_y.out) 0 rfl
                  have y1 := cell_of_box (bx_later HB.out B_y.out) 1 rfl
                  have y2 := cell_of_box (bx_later HB.out B_y.out) 2 rfl
                  go_wp2_with fail
                  refine (refUpto_t F4.out (Z1.out.later HB.out) (Z0.out.later HB.out) (by omega) (by omega)).mono ?_
                  rintro e wn ⟨rfl, hb⟩
                  replace HB := Lib.hid (below_then HB.out (by first | exact hb | exact below_alloc_then hb | exact below_alloc_then (below_alloc_then hb)))
                  clear hb c0 c1 c2 c3 c4 f0 f1 f2 f3 f4 f5 y0 y1 y2
                  have c0 := cell_of_box (bx_later HB.out B_c.out) 0 rfl
                  have c1 := cell_of_box (bx_later HB.out B_c.out) 1 rfl
                  have c2 := cell_of_box (bx_later HB.out B_c.out) 2 rfl
                  have c3 := cell_of_box (bx_later HB.out B_c.out) 3 rfl
                  have c4 := cell_of_box (bx_later HB.out B_c.out) 4 rfl
                  have f0 := cell_of_box (bx_later HB.out B_f.out) 0 rfl
                  have f1 := cell_of_box (bx_later HB.out B_f.out) 1 rfl
                  have f2 := cell_of_box (bx_later HB.out B_f.out) 2 rfl
                  have f3 := cell_of_box (bx_later HB.out B_f.out) 3 rfl
                  have f4 := cell_of_box (bx_later HB.out B_f.out) 4 rfl
                  have f5 := cell_of_box (bx_later HB.out B_f.out) 5 rfl
                  have y0 := cell_of_box (bx_later HB.out B_y.out) 0 rfl
                  have y1 := cell_of_box (bx_later HB.out B_y.out) 1 rfl
                  have y2 := cell_of_box (bx_later HB.out B_y.out) 2 rfl
                  go_wp2_with fail
                  refine (refUpto_t F5.out (Z2.out.later HB.out) (Z0.out.later HB.out) (by omega) (by omega)).mono ?_
                  rintro e wn ⟨rfl, hb⟩
                  replace HB := Lib.hid (below_then HB.out (by first | exact hb | exact below_alloc_then hb | exact below_alloc_then (below_alloc_then hb)))
                  clear hb c0 c1 c2 c3 c4 f0 f1 f2 f3 f4 f5 y0 y1 y2
                  have c0 := cell_of_box (bx_later HB.out B_c.out) 0 rfl
                  have c1 := cell_of_box (bx_later HB.out B_c.out) 1 rfl
                  have c2 := cell_of_box (bx_later HB.out B_c.out) 2 rfl
                  have c3 := cell_of_box (bx_later HB.out B_c.out) 3 rfl
                  have c4 := cell_of_box (bx_later HB.out B_c.out) 4 rfl
                  have f0 := cell_of_box (bx_later HB.out B_f.out) 0 rfl
                  have f1 := cell_of_box (bx_later HB.out B_f.out) 1 rfl
                  have f2 := cell_of_box (bx_later HB.out B_f.out) 2 rfl
                  have f3 := cell_of_box (bx_later HB.out B_f.out) 3 rfl
                  have f4 := cell_of_box (bx_later HB.out B_f.out) 4 rfl
                  have f5 := cell_of_box (bx_later HB.out B_f.out) 5 rfl
                  have y0 := cell_of_box (bx_later HB.out B_y.out) 0 rfl
                  have y1 := cell_of_box (bx_later HB.out B_y.out) 1 rfl
                  have y2 := cell_of_box (bx_later HB.out B_y.out) 2 rfl
                  go_wp2_with fail
                  refine (alive_any _).mono ?_
                  rintro e wn ⟨rfl, hb⟩
                  replace HB := Lib.hid (below_then HB.out (by first | exact hb | exact below_alloc_then hb | exact below_alloc_then (below_alloc_then hb)))
                  clear hb c0 c1 c2 c3 c4 f0 f1 f2 f3 f4 f5 y0 y1 y2
                  have c0 := cell_of_box (bx_later HB.out B_c.out) 0 rfl
                  have c1 := cell_of_box (bx_later HB.out B_c.out) 1 rfl
                  have c2 := cell_of_box (bx_later HB.out B_c.out) 2 rfl
                  have c3 := cell_of_box (bx_later HB.out B_c.out) 3 rfl
                  have c4 := cell_of_box (bx_later HB.out B_c.out) 4 rfl
                  have f0 := cell_of_box (bx_later HB.out B_f.out) 0 rfl
                  have f1 := cell_of_box (bx_later HB.out B_f.out) 1 rfl
                  have f2 := cell_of_box (bx_later HB.out B_f.out) 2 rfl
                  have f3 := cell_of_box (bx_later HB.out B_f.out) 3 rfl
                  have f4 := cell_of_box (bx_later HB.out B_f.out) 4 rfl
                  have f5 := cell_of_box (bx_later HB.out B_f.out) 5 rfl
                  have y0 := cell_of_box (bx_later HB.out B_y.out) 0 rfl
                  have y1 := cell_of_box (bx_later HB.out B_y.out) 1 rfl
                  have y2 := cell_of_box (bx_later HB.out B_y.out) 2 rfl
                  go_wp2_with fail
                  go_ret
                  exact ⟨by first | rfl | exact ret_bool (by simp), below_then HB1.out HB.out⟩
                · have g1z2 : decide (100 < (z2.length : Int)) = false := decide_eq_false (by omega)
                  have g2z2 : decide (100 < z2.length) = false := decide_eq_false (by omega)
                  go_enter Try.func9, Try.ntmps9
                  go_wp2_with fail
                  rw [HW.out]
                  go_wp2_with fail
                  refine (few_p true F0.out (P1.out.later HB.out)).mono ?_
                  rintro e wn ⟨rfl, hb⟩
                  replace HB := Lib.hid (below_then HB.out (by first | exact hb | exact below_alloc_then hb | exact below_alloc_then (below_alloc_then hb)))
                  clear hb c0 c1 c2 c3 c4 f0 f1 f2 f3 f4 f5 y0 y1 y2
                  have c0 := cell_of_box (bx_later HB.out B_c.out) 0 rfl
                  have c1 := cell_of_box (bx_later HB.out B_c.out) 1 rfl
                  have c2 := cell_of_box (bx_later HB.out B_c.out) 2 rfl
                  have c3 := cell_of_box (bx_later HB.out B_c.out) 3 rfl
                  have c4 := cell_of_box (bx_later HB.out B_c.out) 4 rfl
                  have f0 := cell_of_box (bx_later HB.out B_f.out) 0 rfl
                  have f1 := cell_of_box (bx_later HB.out B_f.out) 1 rfl
                  have f2 := cell_of_box (bx_later HB.out B_f.out) 2 rfl
                  have f3 := cell_of_box (bx_later HB.out B_f.out) 3 rfl
                  have f4 := cell_of_box (bx_later HB.out B_f.out) 4 rfl
                  have f5 := cell_of_box (bx_later HB.out B_f.out) 5 rfl
                  have y0 := cell_of_box (bx_later HB.out B_y.out) 0 rfl
                  have y1 := cell_of_box (bx_later HB.out B_y.out) 1 rfl
                  have y2 := cell_of_box (bx_later HB.out B_y.out) 2 rfl
                  go_wp2_with fail
                  refine (vecRight_b true F2.out (Z0.out.later HB.out)).mono ?_
                  rintro e wn ⟨rfl, hb⟩
                  replace HB := Lib.hid (below_then HB.out (by first | exact hb | exact below_alloc_then hb | exact below_alloc_then (below_alloc_then hb)))
                  clear hb c0 c1 c2 c3 c4 f0 f1 f2 f3 f4 f5 y0 y1 y2
                  have c0 := cell_of_box (bx_later HB.out B_c.out) 0 rfl
                  have c1 := cell_of_box (bx_later HB.out B_c.out) 1 rfl
                  have c2 := cell_of_box (bx_later HB.out B_c.out) 2 rfl
                  have c3 := cell_of_box (bx_later HB.out B_c.out) 3 rfl
                  have c4 := cell_of_box (bx_later HB.out B_c.out) 4 rfl
                  have f0 := cell_of_box (bx_later HB.out B_f.out) 0 rfl
                  have f1 := cell_of_box (bx_later HB.out B_f.out) 1 rfl
                  have f2 := cell_of_box (bx_later HB.out B_f.out) 2 rfl
                  have f3 := cell_of_box (bx_later HB.out B_f.out) 3 rfl
                  have f4 := cell_of_box (bx_later HB.out B_f.out) 4 rfl
                  have f5 := cell_of_box (bx_later HB.out B_f.out) 5 rfl
                  have y0 := cell_of_box (bx_later HB.out B_y.out) 0 rfl
                  have y1 := cell_of_box (bx_later HB.out B_y.out) 1 rfl
                  have y2 := cell_of_box (bx_later HB.out B_y.out) 2 rfl
                  go_wp2_with fail
                  refine (right_b true F3.out (P1.out.later HB.out) (by omega)).mono ?_
                  rintro e wn ⟨rfl, hb⟩
                  replace HB := Lib.hid (below_then HB.out (by first | exact hb | exact below_alloc_then hb | exact below_alloc_then (below_alloc_then hb)))
                  clear hb c0 c1 c2 c3 c4 f0 f1 f2 f3 f4 f5 y0 y1 y2
                  have c0 := cell_of_box (bx_later HB.out B_c.out) 0 rfl
                  have c1 := cell_of_box (bx_later HB.out B_c.out) 1 rfl
                  have c2 := cell_of_box (bx_later HB.out B_c.out) 2 rfl
                  have c3 := cell_of_box (bx_later HB.out B_c.out) 3 rfl
                  have c4 := cell_of_box (bx_later HB.out B_c.out) 4 rfl
                  have f0 := cell_of_box (bx_later HB.out B_f.out) 0 rfl
                  have f1 := cell_of_box (bx_later HB.out B_f.out) 1 rfl
                  have f2 := cell_of_box (bx_later HB.out B_f.out) 2 rfl
                  have f3 := cell_of_box (bx_later HB.out B_f.out) 3 rfl
                  have f4 := cell_of_box (bx_later HB.out B_f.out) 4 rfl
                  have f5 := cell_of_box (bx_later HB.out B_f.out) 5 rfl
                  have y0 := cell_of_box (bx_later HB.out B_y.out) 0 rfl
                  have y1 := cell_of_box (bx_later HB.out B_y.out) 1 rfl
                  have y2 := cell_of_box (bx_later HB.out B_y.out) 2 rfl
                  go_wp2_with fail
                  refine (refUpto_t F4.out (Z1.out.later HB.out) (Z0.out.later HB.out) (by omega) (by omega)).mono ?_
                  rintro e wn ⟨rfl, hb⟩
                  replace HB := Lib.hid (below_then HB.out (by first | exact hb | exact below_alloc_then hb | exact below_alloc_then (below_alloc_then hb)))
                  clear hb c0 c1 c2 c3 c4 f0 f1 f2 f3 f4 f5 y0 y1 y2
                  have c0 := cell_of_box (bx_later HB.out B_c.out) 0 rfl
                  have c1 := cell_of_box (bx_later HB.out B_c.out) 1 rfl
                  have c2 := cell_of_box (bx_later HB.out B_c.out) 2 rfl
                  have c3 := cell_of_box (bx_later HB.out B_c.out) 3 rfl
                  have c4 := cell_of_box (bx_later HB.out B_c.out) 4 rfl
                  have f0 := cell_of_box (bx_later HB.out B_f.out) 0 rfl
                  have f1 := cell_of_box (bx_later HB.out B_f.out) 1 rfl
                  have f2 := cell_of_box (bx_later HB.out B_f.out) 2 rfl
                  have f3 := cell_of_box (bx_later HB.out B_f.out) 3 rfl
                  have f4 := cell_of_box (bx_later HB.out B_f.out) 4 rfl
                  have f5 := cell_of_box (bx_later HB.out B_f.out) 5 rfl
                  have y0 := cell_of_box (bx_later HB.out B_y.out) 0 rfl
                  have y1 := cell_of_box (bx_later HB.out B_y.out) 1 rfl
                  have y2 := cell_of_box (bx_later HB.out B_y.out) 2 rfl
                  go_wp2_with fail
                  refine (refUpto_t F5.out (Z2.out.later HB.out) (Z0.out.later HB.out) (by omega) (by omega)).mono ?_
                  rintro e wn ⟨rfl, hb⟩
                  replace HB := Lib.hid (below_then HB.out (by first | exact hb | exact below_alloc_then hb | exact below_alloc_then (below_alloc_then hb)))
                  clear hb c0 c1 c2 c3 c4 f0 f1 f2 f3 f4 f5 y0 y1 y2
                  have c0 := cell_of_box (bx_later HB.out B_c.out) 0 rfl
                  have c1 := cell_of_box (bx_later HB.out B_c.out) 1 rfl
                  have c2 := cell_of_box (bx_later HB.out B_c.out) 2 rfl
                  have c3 := cell_of_box (bx_later HB.out B_c.out) 3 rfl
                  have c4 := cell_of_box (bx_later HB.out B_c.out) 4 rfl
                  have f0 := cell_of_box (bx_later HB.out B_f.out) 0 rfl
                  have f1 := cell_of_box (bx_later HB.out B_f.out) 1 rfl
                  have f2 := cell_of_box (bx_later HB.out B_f.out) 2 rfl
                  have f3 := cell_of_box (bx_later HB.out B_f.out) 3 rfl
                  have f4 := cell_of_box (bx_later HB.out B_f.out) 4 rfl
                  have f5 := cell_of_box (bx_later HB.out B_f.out) 5 rfl
                  have y0 := cell_of_box (bx_later HB.out B_y.out) 0 rfl
                  have y1 := cell_of_box (bx_later HB.out B_y.out) 1 rfl
                  have y2 := cell_of_box (bx_later HB.out B_y.out) 2 rfl
                  go_wp2_with fail
                  clear c0 c1 c2 c3 c4 f0 f1 f2 f3 f4 f5 y0 y1 y2
                  go_loopw [68] (fun vi wr => ∃ k : Nat, k ≤ l1.length ∧ vi = .int .i64 k ∧ Hid (∀ p ∈ l1.take k, hasV z0 p.d = true) ∧ Hid (Ext w1 wr)) (fun vi _ => l1.length - (intOf vi).toNat)
                  case atStart => exact ⟨0, Nat.zero_le _, rfl, (fun p hp => by rw [List.take_zero] at hp; cases hp), HB.out⟩
                  case round =>
                    obtain ⟨k, hk, rfl, hknow, hbw⟩ := hrel
                    rename World => wr
                    clear HB
                    have HB := hbw
                    have c0 := cell_of_box (bx_later HB.out B_c.out) 0 rfl
                    have c1 := cell_of_box (bx_later HB.out B_c.out) 1 rfl
                    have c2 := cell_of_box (bx_later HB.out B_c.out) 2 rfl
                    have c3 := cell_of_box (bx_later HB.out B_c.out) 3 rfl
                    have c4 := cell_of_box (bx_later HB.out B_c.out) 4 rfl
                    have f0 := cell_of_box (bx_later HB.out B_f.out) 0 rfl
                    have f1 := cell_of_box (bx_later HB.out B_f.out) 1 rfl
                    have f2 := cell_of_box (bx_later HB.out B_f.out) 2 rfl
                    have f3 := cell_of_box (bx_later HB.out B_f.out) 3 rfl
                    have f4 := cell_of_box (bx_later HB.out B_f.out) 4 rfl
                    have f5 := cell_of_box (bx_later HB.out B_f.out) 5 rfl
                    have y0 := cell_of_box (bx_later HB.out B_y.out) 0 rfl
                    have y1 := cell_of_box (bx_later HB.out B_y.out) 1 rfl
                    have y2 := cell_of_box (bx_later HB.out B_y.out) 2 rfl
                    by_cases hlt : k < l1.length
                    · obtain ⟨x, hx⟩ : ∃ x, l1[k] = x := ⟨_, rfl⟩
                      obtain ⟨b1, o1, x1, e0, e1, e2, e3, e4, e5, e6, e7, e8, e9, e10, _⟩ := rd_prt (P1.out.later HB.out) rfl k hlt hx
                      have htk : hasV z0 x.d = true → ∀ p ∈ l1.take (k + 1), hasV z0 p.d = true := fun h p hp => by
                        rw [List.take_succ_eq_append_getElem hlt, List.mem_append, hx] at hp
                        rcases hp with hp | hp
                        · exact hknow p hp
                        · rw [List.mem_singleton.1 hp]; exact h
                      have hbx := below_alloc wr (.cells #[.int .i64 x.v.k, .int .i64 x.v.n, .string x.v.s, .int .i64 x.d.dev, .int .i64 x.d.seq, .int .i64 x.at_, .int .i64 x.tm, .int .i64 x.aft.dev, .int .i64 x.aft.seq, .int .i64 x.aat, .bool x.gone] 32)
                      have y0' := cell_later hbx y0
                      have HBX := Lib.hid hbx
                      have HTK := Lib.hid htk
                      clear hx hbx htk
                      cases hv : hasV z0 x.d
                      all_goals
                        have HV := Lib.hid hv
                        clear hv
                        go_wp2_with fail
                      · refine (hasV_b false HV.out (Z0.out.later (below_then HB.out HBX.out))).mono ?_
                        rintro e w3 ⟨rfl, hb3⟩
                        replace HB := Lib.hid (below_then HB.out (below_then HBX.out hb3))
                        clear y0' c0 c1 c2 c3 c4 f0 f1 f2 f3 f4 f5 y0 y1 y2 e0 e1 e2 e3 e4 e5 e6 e7 e8 e9 e10 hb3
                        have c0 := cell_of_box (bx_later HB.out B_c.out) 0 rfl
                        have c1 := cell_of_box (bx_later HB.out B_c.out) 1 rfl
                        have c2 := cell_of_box (bx_later HB.out B_c.out) 2 rfl
                        have c3 := cell_of_box (bx_later HB.out B_c.out) 3 rfl
                        have c4 := cell_of_box (bx_later HB.out B_c.out) 4 rfl
                        have f0 := cell_of_box (bx_later HB.out B_f.out) 0 rfl
                        have f1 := cell_of_box (bx_later HB.out B_f.out) 1 rfl
                        have f2 := cell_of_box (bx_later HB.out B_f.out) 2 rfl
                        have f3 := cell_of_box (bx_later HB.out B_f.out) 3 rfl
                        have f4 := cell_of_box (bx_later HB.out B_f.out) 4 rfl
                        have f5 := cell_of_box (bx_later HB.out B_f.out) 5 rfl
                        have y0 := cell_of_box (bx_later HB.out B_y.out) 0 rfl
                        have y1 := cell_of_box (bx_later HB.out B_y.out) 1 rfl
                        have y2 := cell_of_box (bx_later HB.out B_y.out) 2 rfl
                        go_wp2_with fail
                        refine (alive_any _).mono ?_
                        rintro e wn ⟨rfl, hb⟩
                        replace HB := Lib.hid (below_then HB.out (by first | exact hb | exact below_alloc_then hb | exact below_alloc_then (below_alloc_then hb)))
                        clear hb c0 c1 c2 c3 c4 f0 f1 f2 f3 f4 f5 y0 y1 y2
                        have c0 := cell_of_box (bx_later HB.out B_c.out) 0 rfl
                        have c1 := cell_of_box (bx_later HB.out B_c.out) 1 rfl
                        have c2 := cell_of_box (bx_later HB.out B_c.out) 2 rfl
                        have c3 := cell_of_box (bx_later HB.out B_c.out) 3 rfl
                        have c4 := cell_of_box (bx_later HB.out B_c.out) 4 rfl
                        have f0 := cell_of_box (bx_later HB.out B_f.out) 0 rfl
                        have f1 := cell_of_box (bx_later HB.out B_f.out) 1 rfl
                        have f2 := cell_of_box (bx_later HB.out B_f.out) 2 rfl
                        have f3 := cell_of_box (bx_later HB.out B_f.out) 3 rfl
                        have f4 := cell_of_box (bx_later HB.out B_f.out) 4 rfl
                        have f5 := cell_of_box (bx_later HB.out B_f.out) 5 rfl
                        have y0 := cell_of_box (bx_later HB.out B_y.out) 0 rfl
                        have y1 := cell_of_box (bx_later HB.out B_y.out) 1 rfl
                        have y2 := cell_of_box (bx_later HB.out B_y.out) 2 rfl
                        go_wp2_with fail
                        go_ret
                        exact ⟨by first | rfl | exact ret_bool (by simp), below_then HB1.out HB.out⟩
                      · refine (hasV_b true HV.out (Z0.out.later (below_then HB.out HBX.out))).mono ?_
                        rintro e w3 ⟨rfl, hb3⟩
                        replace HB := Lib.hid (below_then HB.out (below_then HBX.out hb3))
                        clear y0' c0 c1 c2 c3 c4 f0 f1 f2 f3 f4 f5 y0 y1 y2 e0 e1 e2 e3 e4 e5 e6 e7 e8 e9 e10 hb3
                        go_wp2_with fail
                        go_roundw
                        case rel => exact ⟨k + 1, by omega, by go_num, HTK.out HV.out, HB.out⟩
                        case measure => simp [intOf]; omega
                    · have hkn : k = l1.length := by omega
                      subst hkn
                      rw [List.take_of_length_le (Nat.le_refl _)] at hknow
                      clear hlt hk
                      go_upto_region 9 with fail
                      have hor := ofV_right F2.out 1
                      have hor2 := ofV_right F2.out 2
                      have hmeet := meet_of (rcB_iff.1 F3.out).parts.rise F2.out hknow F4.out F5.out
                      obtain ⟨o1, ho1⟩ : ∃ o1, ofV z0 1 = o1 := ⟨_, rfl⟩
                      obtain ⟨o2, ho2⟩ : ∃ o2, ofV z0 2 = o2 := ⟨_, rfl⟩
                      have hof1 : ∀ W, Ext wr W → Calls Try.prog 28 #[.slice zo0 z0.length zc0, .int .i64 1] W fun e w' => e = .returned (.int .i64 o1) ∧ W = w' := fun W h => by rw [← ho1]; exact refOfV_any _ z0 1 W (Z0.out.later (below_then HB.out h))
                      have hof2 : ∀ W, Ext wr W → Calls Try.prog 28 #[.slice zo0 z0.length zc0, .int .i64 2] W fun e w' => e = .returned (.int .i64 o2) ∧ W = w' := fun W h => by rw [← ho2]; exact refOfV_any _ z0 2 W (Z0.out.later (below_then HB.out h))
                      have hw1 : IntKind.i64.wrap (o1 + 1) = o1 + 1 := by rw [IntKind.wrap_i64]; omega
                      have hw2 : IntKind.i64.wrap (o2 + 1) = o2 + 1 := by rw [IntKind.wrap_i64]; omega
                      rw [ho1] at hor
                      rw [ho2] at hor2
                      rw [ho1, ho2] at hmeet
                      have HOF1 := Lib.hid hof1
                      have HOF2 := Lib.hid hof2
                      have HME := Lib.hid hmeet
                      clear hmeet hof1 hof2 ho1 ho2
                      go_cut [9, 10] (fun s9 s10 wx => ∃ g h : Nat, s9 = .pointer (some ⟨g, 0, none⟩) ∧ s10 = .pointer (some ⟨h, 0, none⟩) ∧ Hid (Bx wx g #[.int .i64 1, .int .i64 (o1 + 1)] 30) ∧ Hid (Bx wx h #[.int .i64 2, .int .i64 (o2 + 1)] 30) ∧ Hid (Ext wr wx))
                      case first =>
                        clear c0 c1 c2 c3 c4 f0 f1 f2 f3 f4 f5 y1 y2
                        have hlt : w.heap.size + 2 < wr.heap.size := World.block_lt_of_cell? _ _ y0
                        go_region_held3 (fun w' => w'.cell? ⟨w.heap.size + 2, 0, none⟩ = some (.slice zo0 z0.length zc0)) (first | go_keep | exact cell_later (by first | exact (Below.refl _ _).drew | exact (Below.alloc (Below.refl _ _) (Nat.le_refl _) _).drew | exact (Below.alloc (Below.alloc (Below.refl _ _) (Nat.le_refl _) _) (by simp) _).drew | exact ((Below.alloc (Below.refl _ _) (Nat.le_refl _) _).setCell (by simp) _).drew | exact ((Below.alloc (Below.alloc (Below.refl _ _) (Nat.le_refl _) _) (by simp) _).setCell (by simp) _).drew ) y0) ((first | (go_at_call 28; (with_reducible refine (HOF1.out _ (by first | exact (Below.refl _ _).drew | exact (Below.alloc (Below.refl _ _) (Nat.le_refl _) _).drew | exact (Below.alloc (Below.alloc (Below.refl _ _) (Nat.le_refl _) _) (by simp) _).drew | exact ((Below.alloc (Below.refl _ _) (Nat.le_refl _) _).setCell (by simp) _).drew | exact ((Below.alloc (Below.alloc (Below.refl _ _) (Nat.le_refl _) _) (by simp) _).setCell (by simp) _).drew )).mono ?_); rintro e w' ⟨rfl, rfl⟩) | (go_at_call 28; (with_reducible refine (HOF2.out _ (by first | exact (Below.refl _ _).drew | exact (Below.alloc (Below.refl _ _) (Nat.le_refl _) _).drew | exact (Below.alloc (Below.alloc (Below.refl _ _) (Nat.le_refl _) _) (by simp) _).drew | exact ((Below.alloc (Below.refl _ _) (Nat.le_refl _) _).setCell (by simp) _).drew | exact ((Below.alloc (Below.alloc (Below.refl _ _) (Nat.le_refl _) _) (by simp) _).setCell (by simp) _).drew )).mono ?_); rintro e w' ⟨rfl, rfl⟩)))
                        all_goals
                          go_wp2_with fail
                          go_meet
                          first | exact ⟨_, _, rfl, rfl, (two_new _ _ _ _ _).1, (two_new _ _ _ _ _).2.1, (two_new _ _ _ _ _).2.2⟩ | exact ⟨_, _, rfl, rfl, (two_new _ _ _ _ _).2.1, (two_new _ _ _ _ _).1, (two_new _ _ _ _ _).2.2⟩
                      case rest =>
                        obtain ⟨gd, ge, rfl, rfl, bd, be, hbx⟩ := hcut
                        have hbn := below_then HB.out hbx.out
                        clear c0 c1 c2 c3 c4 f0 f1 f2 f3 f4 f5 y0 y1 y2
                        replace B_c := Lib.hid (bx_later hbn B_c.out)
                        replace B_f := Lib.hid (bx_later hbn B_f.out)
                        replace B_y := Lib.hid (bx_later hbn B_y.out)
                        replace P1 := Lib.hid (P1.out.later hbn)
                        replace Z0 := Lib.hid (Z0.out.later hbn)
                        replace Z1 := Lib.hid (Z1.out.later hbn)
                        replace Z2 := Lib.hid (Z2.out.later hbn)
                        replace HB1 := Lib.hid (below_then HB1.out hbn)
                        clear HB hbn
                        have HB := Lib.hid (Below.refl wc.heap.size wc)
                        have B_d := Lib.hid bd.out
                        have B_q := Lib.hid be.out
                        have c0 := cell_of_box (bx_later HB.out B_c.out) 0 rfl
                        have c1 := cell_of_box (bx_later HB.out B_c.out) 1 rfl
                        have c2 := cell_of_box (bx_later HB.out B_c.out) 2 rfl
                        have c3 := cell_of_box (bx_later HB.out B_c.out) 3 rfl
                        have c4 := cell_of_box (bx_later HB.out B_c.out) 4 rfl
                        have f0 := cell_of_box (bx_later HB.out B_f.out) 0 rfl
                        have f1 := cell_of_box (bx_later HB.out B_f.out) 1 rfl
                        have f2 := cell_of_box (bx_later HB.out B_f.out) 2 rfl
                        have f3 := cell_of_box (bx_later HB.out B_f.out) 3 rfl
                        have f4 := cell_of_box (bx_later HB.out B_f.out) 4 rfl
                        have f5 := cell_of_box (bx_later HB.out B_f.out) 5 rfl
                        have y0 := cell_of_box (bx_later HB.out B_y.out) 0 rfl
                        have y1 := cell_of_box (bx_later HB.out B_y.out) 1 rfl
                        have y2 := cell_of_box (bx_later HB.out B_y.out) 2 rfl
                        have d0 := cell_of_box (bx_later HB.out B_d.out) 0 rfl
                        have d1 := cell_of_box (bx_later HB.out B_d.out) 1 rfl
                        have q0 := cell_of_box (bx_later HB.out B_q.out) 0 rfl
                        have q1 := cell_of_box (bx_later HB.out B_q.out) 1 rfl
                        clear bd be hbx HOF1 HOF2
                        obtain ⟨ma, hma⟩ : ∃ ma, writeL l1 ⟨uk, un, us⟩ ⟨1, o1 + 1⟩ z1 = ma := ⟨_, rfl⟩
                        obtain ⟨mb, hmb⟩ : ∃ mb, writeL l1 ⟨xk, xn, xs⟩ ⟨2, o2 + 1⟩ z2 = mb := ⟨_, rfl⟩
                        obtain ⟨mc, hmc⟩ : ∃ mc, writeL ma ⟨xk, xn, xs⟩ ⟨2, o2 + 1⟩ z2 = mc := ⟨_, rfl⟩
                        obtain ⟨sx, hsx⟩ : ∃ sx, setL z0 1 (o1 + 1) = sx := ⟨_, rfl⟩
                        obtain ⟨sy, hsy⟩ : ∃ sy, setL z0 2 (o2 + 1) = sy := ⟨_, rfl⟩
                        have hme := HME.out
                        rw [hsx, hsy] at hme
                        have hj1 := hme.all ⟨uk, un, us⟩ ⟨xk, xn, xs⟩
                        have hj2 := hme.all' ⟨uk, un, us⟩ ⟨xk, xn, xs⟩
                        have hj4 := hme.got ⟨uk, un, us⟩
                        rw [hma, hmb, hmc] at hj1 hj2
                        rw [hma] at hj4
                        have hj3 : joinL ma ma sx sx = ma := joinL_self (by rw [← hma]; exact writeL_rise hme.rise _ _ _) _ _
                        have hla : ma.length ≤ 61 := by rw [← hma]; have := writeL_len l1 ⟨uk, un, us⟩ ⟨1, o1 + 1⟩ z1; omega
                        have hlb : mb.length ≤ 61 := by rw [← hmb]; have := writeL_len l1 ⟨xk, xn, xs⟩ ⟨2, o2 + 1⟩ z2; omega
                        have hlc : mc.length ≤ 62 := by rw [← hmc]; have := writeL_len ma ⟨xk, xn, xs⟩ ⟨2, o2 + 1⟩ z2; omega
                        obtain ⟨hrk, hrv, _⟩ := rcB_iff.1 F3.out
                        subst hrk
                        unfold nilV at hrv
                        cases hrv
                        have HMA := Lib.hid hma
                        have HMB := Lib.hid hmb
                        have HMC := Lib.hid hmc
                        have HSX := Lib.hid hsx
                        have HSY := Lib.hid hsy
                        have HJ1 := Lib.hid hj1
                        have HJ2 := Lib.hid hj2
                        have HJ3 := Lib.hid hj3
                        have HJ4 := Lib.hid hj4
                        clear hma hmb hmc hsx hsy hj1 hj2 hj3 hj4 hme HME
                        go_wp2_with fail
                        refine (write_p (P1.out.later HB.out) (Z1.out.later HB.out) (by omega) HMA.out).mono ?_
                        rintro e wm5 ⟨am5, km5, rfl, hpm, hb⟩
                        go_upto_region 11 with fail
                        obtain ⟨v5, hv5⟩ : ∃ v5, wm5.alloc (.cells #[(.int .i64 1), (.int .i64 0), (.int .i64 0), (.string ⟨#[]⟩), (.slice am5 ma.length km5)] 26) = v5 := ⟨_, rfl⟩
                        have hb2 : Ext wm5 v5 := by rw [← hv5]; exact below_alloc _ _
                        have bq : Bx v5 wm5.heap.size #[(.int .i64 1), (.int .i64 0), (.int .i64 0), (.string ⟨#[]⟩), (.slice am5 ma.length km5)] 26 := by rw [← hv5]; exact bx_new rfl
                        have hpm2 := hpm.later hb2
                        rw [hv5]
                        have hbq := below_then hb hb2
                        have hbn := below_then HB.out hbq
                        clear c0 c1 c2 c3 c4 f0 f1 f2 f3 f4 f5 y0 y1 y2 d0 d1 q0 q1
                        replace B_c := Lib.hid (bx_later hbn B_c.out)
                        replace B_f := Lib.hid (bx_later hbn B_f.out)
                        replace B_y := Lib.hid (bx_later hbn B_y.out)
                        replace B_d := Lib.hid (bx_later hbn B_d.out)
                        replace B_q := Lib.hid (bx_later hbn B_q.out)
                        replace P1 := Lib.hid (P1.out.later hbn)
                        replace Z0 := Lib.hid (Z0.out.later hbn)
                        replace Z1 := Lib.hid (Z1.out.later hbn)
                        replace Z2 := Lib.hid (Z2.out.later hbn)
                        replace HB1 := Lib.hid (below_then HB1.out hbn)
                        clear HB hbn
                        have HB := Lib.hid (Below.refl v5.heap.size v5)
                        have B_r := Lib.hid bq
                        have c0 := cell_of_box (bx_later HB.out B_c.out) 0 rfl
                        have c1 := cell_of_box (bx_later HB.out B_c.out) 1 rfl
                        have c2 := cell_of_box (bx_later HB.out B_c.out) 2 rfl
                        have c3 := cell_of_box (bx_later HB.out B_c.out) 3 rfl
                        have c4 := cell_of_box (bx_later HB.out B_c.out) 4 rfl
                        have f0 := cell_of_box (bx_later HB.out B_f.out) 0 rfl
                        have f1 := cell_of_box (bx_later HB.out B_f.out) 1 rfl
                        have f2 := cell_of_box (bx_later HB.out B_f.out) 2 rfl
                        have f3 := cell_of_box (bx_later HB.out B_f.out) 3 rfl
                        have f4 := cell_of_box (bx_later HB.out B_f.out) 4 rfl
                        have f5 := cell_of_box (bx_later HB.out B_f.out) 5 rfl
                        have y0 := cell_of_box (bx_later HB.out B_y.out) 0 rfl
                        have y1 := cell_of_box (bx_later HB.out B_y.out) 1 rfl
                        have y2 := cell_of_box (bx_later HB.out B_y.out) 2 rfl
                        have d0 := cell_of_box (bx_later HB.out B_d.out) 0 rfl
                        have d1 := cell_of_box (bx_later HB.out B_d.out) 1 rfl
                        have q0 := cell_of_box (bx_later HB.out B_q.out) 0 rfl
                        have q1 := cell_of_box (bx_later HB.out B_q.out) 1 rfl
                        have r0 := cell_of_box (bx_later HB.out B_r.out) 0 rfl
                        have r1 := cell_of_box (bx_later HB.out B_r.out) 1 rfl
                        have r2 := cell_of_box (bx_later HB.out B_r.out) 2 rfl
                        have r3 := cell_of_box (bx_later HB.out B_r.out) 3 rfl
                        have r4 := cell_of_box (bx_later HB.out B_r.out) 4 rfl
                        have P_r := Lib.hid hpm2
                        obtain ⟨gr5, hg5⟩ : ∃ gr5, wm5.heap.size = gr5 := ⟨_, rfl⟩
                        rw [hg5] at B_r ⊢
                        clear hv5 hb2 bq hbq hb hg5 hpm hpm2 c0 c1 c2 c3 c4 f0 f1 f2 f3 f4 f5 y0 y1 y2 d0 d1 q0 q1 r0 r1 r2 r3 r4
                        have c0 := cell_of_box (bx_later HB.out B_c.out) 0 rfl
                        have c1 := cell_of_box (bx_later HB.out B_c.out) 1 rfl
                        have c2 := cell_of_box (bx_later HB.out B_c.out) 2 rfl
                        have c3 := cell_of_box (bx_later HB.out B_c.out) 3 rfl
                        have c4 := cell_of_box (bx_later HB.out B_c.out) 4 rfl
                        have f0 := cell_of_box (bx_later HB.out B_f.out) 0 rfl
                        have f1 := cell_of_box (bx_later HB.out B_f.out) 1 rfl
                        have f2 := cell_of_box (bx_later HB.out B_f.out) 2 rfl
                        have f3 := cell_of_box (bx_later HB.out B_f.out) 3 rfl
                        have f4 := cell_of_box (bx_later HB.out B_f.out) 4 rfl
                        have f5 := cell_of_box (bx_later HB.out B_f.out) 5 rfl
                        have y0 := cell_of_box (bx_later HB.out B_y.out) 0 rfl
                        have y1 := cell_of_box (bx_later HB.out B_y.out) 1 rfl
                        have y2 := cell_of_box (bx_later HB.out B_y.out) 2 rfl
                        have d0 := cell_of_box (bx_later HB.out B_d.out) 0 rfl
                        have d1 := cell_of_box (bx_later HB.out B_d.out) 1 rfl
                        have q0 := cell_of_box (bx_later HB.out B_q.out) 0 rfl
                        have q1 := cell_of_box (bx_later HB.out B_q.out) 1 rfl
                        have r0 := cell_of_box (bx_later HB.out B_r.out) 0 rfl
                        have r1 := cell_of_box (bx_later HB.out B_r.out) 1 rfl
                        have r2 := cell_of_box (bx_later HB.out B_r.out) 2 rfl
                        have r3 := cell_of_box (bx_later HB.out B_r.out) 3 rfl
                        have r4 := cell_of_box (bx_later HB.out B_r.out) 4 rfl
                        go_wp2_with fail
                        refine (write_p (P1.out.later HB.out) (Z2.out.later HB.out) (by omega) HMB.out).mono ?_
                        rintro e wm6 ⟨am6, km6, rfl, hpm, hb⟩
                        go_upto_region 12 with fail
                        obtain ⟨v6, hv6⟩ : ∃ v6, wm6.alloc (.cells #[(.int .i64 1), (.int .i64 0), (.int .i64 0), (.string ⟨#[]⟩), (.slice am6 mb.length km6)] 26) = v6 := ⟨_, rfl⟩
                        have hb2 : Ext wm6 v6 := by rw [← hv6]; exact below_alloc _ _
                        have bq : Bx v6 wm6.heap.size #[(.int .i64 1), (.int .i64 0), (.int .i64 0), (.string ⟨#[]⟩), (.slice am6 mb.length km6)] 26 := by rw [← hv6]; exact bx_new rfl
                        have hpm2 := hpm.later hb2
                        rw [hv6]
                        have hbq := below_then hb hb2
                        have hbn := below_then HB.out hbq
                        clear c0 c1 c2 c3 c4 f0 f1 f2 f3 f4 f5 y0 y1 y2 d0 d1 q0 q1 r0 r1 r2 r3 r4
                        replace B_c := Lib.hid (bx_later hbn B_c.out)
                        replace B_f := Lib.hid (bx_later hbn B_f.out)
                        replace B_y := Lib.hid (bx_later hbn B_y.out)
                        replace B_d := Lib.hid (bx_later hbn B_d.out)
                        replace B_q := Lib.hid (bx_later hbn B_q.out)
                        replace B_r := Lib.hid (bx_later hbn B_r.out)
                        replace P1 := Lib.hid (P1.out.later hbn)
                        replace Z0 := Lib.hid (Z0.out.later hbn)
                        replace Z1 := Lib.hid (Z1.out.later hbn)
                        replace Z2 := Lib.hid (Z2.out.later hbn)
                        replace P_r := Lib.hid (P_r.out.later hbn)
                        replace HB1 := Lib.hid (below_then HB1.out hbn)
                        clear HB hbn
                        have HB := Lib.hid (Below.refl v6.heap.size v6)
                        have B_s := Lib.hid bq
                        have c0 := cell_of_box (bx_later HB.out B_c.out) 0 rfl
                        have c1 := cell_of_box (bx_later HB.out B_c.out) 1 rfl
                        have c2 := cell_of_box (bx_later HB.out B_c.out) 2 rfl
                        have c3 := cell_of_box (bx_later HB.out B_c.out) 3 rfl
                        have c4 := cell_of_box (bx_later HB.out B_c.out) 4 rfl
                        have f0 := cell_of_box (bx_later HB.out B_f.out) 0 rfl
                        have f1 := cell_of_box (bx_later HB.out B_f.out) 1 rfl
                        have f2 := cell_of_box (bx_later HB.out B_f.out) 2 rfl
                        have f3 := cell_of_box (bx_later HB.out B_f.out) 3 rfl
                        have f4 := cell_of_box (bx_later HB.out B_f.out) 4 rfl
                        have f5 := cell_of_box (bx_later HB.out B_f.out) 5 rfl
                        have y0 := cell_of_box (bx_later HB.out B_y.out) 0 rfl
                        have y1 := cell_of_box (bx_later HB.out B_y.out) 1 rfl
                        have y2 := cell_of_box (bx_later HB.out B_y.out) 2 rfl
                        have d0 := cell_of_box (bx_later HB.out B_d.out) 0 rfl
                        have d1 := cell_of_box (bx_later HB.out B_d.out) 1 rfl
                        have q0 := cell_of_box (bx_later HB.out B_q.out) 0 rfl
                        have q1 := cell_of_box (bx_later HB.out B_q.out) 1 rfl
                        have r0 := cell_of_box (bx_later HB.out B_r.out) 0 rfl
                        have r1 := cell_of_box (bx_later HB.out B_r.out) 1 rfl
                        have r2 := cell_of_box (bx_later HB.out B_r.out) 2 rfl
                        have r3 := cell_of_box (bx_later HB.out B_r.out) 3 rfl
                        have r4 := cell_of_box (bx_later HB.out B_r.out) 4 rfl
                        have s0 := cell_of_box (bx_later HB.out B_s.out) 0 rfl
                        have s1 := cell_of_box (bx_later HB.out B_s.out) 1 rfl
                        have s2 := cell_of_box (bx_later HB.out B_s.out) 2 rfl
                        have s3 := cell_of_box (bx_later HB.out B_s.out) 3 rfl
                        have s4 := cell_of_box (bx_later HB.out B_s.out) 4 rfl
                        have P_s := Lib.hid hpm2
                        obtain ⟨gs6, hg6⟩ : ∃ gs6, wm6.heap.size = gs6 := ⟨_, rfl⟩
                        rw [hg6] at B_s ⊢
                        clear hv6 hb2 bq hbq hb hg6 hpm hpm2 c0 c1 c2 c3 c4 f0 f1 f2 f3 f4 f5 y0 y1 y2 d0 d1 q0 q1 r0 r1 r2 r3 r4 s0 s1 s2 s3 s4
                        have c0 := cell_of_box (bx_later HB.out B_c.out) 0 rfl
                        have c1 := cell_of_box (bx_later HB.out B_c.out) 1 rfl
                        have c2 := cell_of_box (bx_later HB.out B_c.out) 2 rfl
                        have c3 := cell_of_box (bx_later HB.out B_c.out) 3 rfl
                        have c4 := cell_of_box (bx_later HB.out B_c.out) 4 rfl
                        have f0 := cell_of_box (bx_later HB.out B_f.out) 0 rfl
                        have f1 := cell_of_box (bx_later HB.out B_f.out) 1 rfl
                        have f2 := cell_of_box (bx_later HB.out B_f.out) 2 rfl
                        have f3 := cell_of_box (bx_later HB.out B_f.out) 3 rfl
                        have f4 := cell_of_box (bx_later HB.out B_f.out) 4 rfl
                        have f5 := cell_of_box (bx_later HB.out B_f.out) 5 rfl
                        have y0 := cell_of_box (bx_later HB.out B_y.out) 0 rfl
                        have y1 := cell_of_box (bx_later HB.out B_y.out) 1 rfl
                        have y2 := cell_of_box (bx_later HB.out B_y.out) 2 rfl
                        have d0 := cell_of_box (bx_later HB.out B_d.out) 0 rfl
                        have d1 := cell_of_box (bx_later HB.out B_d.out) 1 rfl
                        have q0 := cell_of_box (bx_later HB.out B_q.out) 0 rfl
                        have q1 := cell_of_box (bx_later HB.out B_q.out) 1 rfl
                        have r0 := cell_of_box (bx_later HB.out B_r.out) 0 rfl
                        have r1 := cell_of_box (bx_later HB.out B_r.out) 1 rfl
                        have r2 := cell_of_box (bx_later HB.out B_r.out) 2 rfl
                        have r3 := cell_of_box (bx_later HB.out B_r.out) 3 rfl
                        have r4 := cell_of_box (bx_later HB.out B_r.out) 4 rfl
                        have s0 := cell_of_box (bx_later HB.out B_s.out) 0 rfl
                        have s1 := cell_of_box (bx_later HB.out B_s.out) 1 rfl
                        have s2 := cell_of_box (bx_later HB.out B_s.out) 2 rfl
                        have s3 := cell_of_box (bx_later HB.out B_s.out) 3 rfl
                        have s4 := cell_of_box (bx_later HB.out B_s.out) 4 rfl
                        go_wp2_with fail
                        refine (write_p (P_r.out.later HB.out) (Z2.out.later HB.out) (by omega) HMC.out).mono ?_
                        rintro e wm7 ⟨am7, km7, rfl, hpm, hb⟩
                        go_upto_region 13 with fail
                        obtain ⟨v7, hv7⟩ : ∃ v7, wm7.alloc (.cells #[(.int .i64 1), (.int .i64 0), (.int .i64 0), (.string ⟨#[]⟩), (.slice am7 mc.length km7)] 26) = v7 := ⟨_, rfl⟩
                        have hb2 : Ext wm7 v7 := by rw [← hv7]; exact below_alloc _ _
                        have bq : Bx v7 wm7.heap.size #[(.int .i64 1), (.int .i64 0), (.int .i64 0), (.string ⟨#[]⟩), (.slice am7 mc.length km7)] 26 := by rw [← hv7]; exact bx_new rfl
                        have hpm2 := hpm.later hb2
                        rw [hv7]
                        have hbq := below_then hb hb2
                        have hbn := below_then HB.out hbq
                        clear c0 c1 c2 c3 c4 f0 f1 f2 f3 f4 f5 y0 y1 y2 d0 d1 q0 q1 r0 r1 r2 r3 r4 s0 s1 s2 s3 s4
                        replace B_c := Lib.hid (bx_later hbn B_c.out)
                        replace B_f := Lib.hid (bx_later hbn B_f.out)
                        replace B_y := Lib.hid (bx_later hbn B_y.out)
                        replace B_d := Lib.hid (bx_later hbn B_d.out)
                        replace B_q := Lib.hid (bx_later hbn B_q.out)
                        replace B_r := Lib.hid (bx_later hbn B_r.out)
                        replace B_s := Lib.hid (bx_later hbn B_s.out)
                        replace P1 := Lib.hid (P1.out.later hbn)
                        replace Z0 := Lib.hid (Z0.out.later hbn)
                        replace Z1 := Lib.hid (Z1.out.later hbn)
                        replace Z2 := Lib.hid (Z2.out.later hbn)
                        replace P_r := Lib.hid (P_r.out.later hbn)
                        replace P_s := Lib.hid (P_s.out.later hbn)
                        replace HB1 := Lib.hid (below_then HB1.out hbn)
                        clear HB hbn
                        have HB := Lib.hid (Below.refl v7.heap.size v7)
                        have B_t := Lib.hid bq
                        have c0 := cell_of_box (bx_later HB.out B_c.out) 0 rfl
                        have c1 := cell_of_box (bx_later HB.out B_c.out) 1 rfl
                        have c2 := cell_of_box (bx_later HB.out B_c.out) 2 rfl
                        have c3 := cell_of_box (bx_later HB.out B_c.out) 3 rfl
                        have c4 := cell_of_box (bx_later HB.out B_c.out) 4 rfl
                        have f0 := cell_of_box (bx_later HB.out B_f.out) 0 rfl
                        have f1 := cell_of_box (bx_later HB.out B_f.out) 1 rfl
                        have f2 := cell_of_box (bx_later HB.out B_f.out) 2 rfl
                        have f3 := cell_of_box (bx_later HB.out B_f.out) 3 rfl
                        have f4 := cell_of_box (bx_later HB.out B_f.out) 4 rfl
                        have f5 := cell_of_box (bx_later HB.out B_f.out) 5 rfl
                        have y0 := cell_of_box (bx_later HB.out B_y.out) 0 rfl
                        have y1 := cell_of_box (bx_later HB.out B_y.out) 1 rfl
                        have y2 := cell_of_box (bx_later HB.out B_y.out) 2 rfl
                        have d0 := cell_of_box (bx_later HB.out B_d.out) 0 rfl
                        have d1 := cell_of_box (bx_later HB.out B_d.out) 1 rfl
                        have q0 := cell_of_box (bx_later HB.out B_q.out) 0 rfl
                        have q1 := cell_of_box (bx_later HB.out B_q.out) 1 rfl
                        have r0 := cell_of_box (bx_later HB.out B_r.out) 0 rfl
                        have r1 := cell_of_box (bx_later HB.out B_r.out) 1 rfl
                        have r2 := cell_of_box (bx_later HB.out B_r.out) 2 rfl
                        have r3 := cell_of_box (bx_later HB.out B_r.out) 3 rfl
                        have r4 := cell_of_box (bx_later HB.out B_r.out) 4 rfl
                        have s0 := cell_of_box (bx_later HB.out B_s.out) 0 rfl
                        have s1 := cell_of_box (bx_later HB.out B_s.out) 1 rfl
                        have s2 := cell_of_box (bx_later HB.out B_s.out) 2 rfl
                        have s3 := cell_of_box (bx_later HB.out B_s.out) 3 rfl
                        have s4 := cell_of_box (bx_later HB.out B_s.out) 4 rfl
                        have t0 := cell_of_box (bx_later HB.out B_t.out) 0 rfl
                        have t1 := cell_of_box (bx_later HB.out B_t.out) 1 rfl
                        have t2 := cell_of_box (bx_later HB.out B_t.out) 2 rfl
                        have t3 := cell_of_box (bx_later HB.out B_t.out) 3 rfl
                        have t4 := cell_of_box (bx_later HB.out B_t.out) 4 rfl
                        have P_t := Lib.hid hpm2
                        obtain ⟨gt7, hg7⟩ : ∃ gt7, wm7.heap.size = gt7 := ⟨_, rfl⟩
                        rw [hg7] at B_t ⊢
                        clear hv7 hb2 bq hbq hb hg7 hpm hpm2 c0 c1 c2 c3 c4 f0 f1 f2 f3 f4 f5 y0 y1 y2 d0 d1 q0 q1 r0 r1 r2 r3 r4 s0 s1 s2 s3 s4 t0 t1 t2 t3 t4
                        have c0 := cell_of_box (bx_later HB.out B_c.out) 0 rfl
                        have c1 := cell_of_box (bx_later HB.out B_c.out) 1 rfl
                        have c2 := cell_of_box (bx_later HB.out B_c.out) 2 rfl
                        have c3 := cell_of_box (bx_later HB.out B_c.out) 3 rfl
                        have c4 := cell_of_box (bx_later HB.out B_c.out) 4 rfl
                        have f0 := cell_of_box (bx_later HB.out B_f.out) 0 rfl
                        have f1 := cell_of_box (bx_later HB.out B_f.out) 1 rfl
                        have f2 := cell_of_box (bx_later HB.out B_f.out) 2 rfl
                        have f3 := cell_of_box (bx_later HB.out B_f.out) 3 rfl
                        have f4 := cell_of_box (bx_later HB.out B_f.out) 4 rfl
                        have f5 := cell_of_box (bx_later HB.out B_f.out) 5 rfl
                        have y0 := cell_of_box (bx_later HB.out B_y.out) 0 rfl
                        have y1 := cell_of_box (bx_later HB.out B_y.out) 1 rfl
                        have y2 := cell_of_box (bx_later HB.out B_y.out) 2 rfl
                        have d0 := cell_of_box (bx_later HB.out B_d.out) 0 rfl
                        have d1 := cell_of_box (bx_later HB.out B_d.out) 1 rfl
                        have q0 := cell_of_box (bx_later HB.out B_q.out) 0 rfl
                        have q1 := cell_of_box (bx_later HB.out B_q.out) 1 rfl
                        have r0 := cell_of_box (bx_later HB.out B_r.out) 0 rfl
                        have r1 := cell_of_box (bx_later HB.out B_r.out) 1 rfl
                        have r2 := cell_of_box (bx_later HB.out B_r.out) 2 rfl
                        have r3 := cell_of_box (bx_later HB.out B_r.out) 3 rfl
                        have r4 := cell_of_box (bx_later HB.out B_r.out) 4 rfl
                        have s0 := cell_of_box (bx_later HB.out B_s.out) 0 rfl
                        have s1 := cell_of_box (bx_later HB.out B_s.out) 1 rfl
                        have s2 := cell_of_box (bx_later HB.out B_s.out) 2 rfl
                        have s3 := cell_of_box (bx_later HB.out B_s.out) 3 rfl
                        have s4 := cell_of_box (bx_later HB.out B_s.out) 4 rfl
                        have t0 := cell_of_box (bx_later HB.out B_t.out) 0 rfl
                        have t1 := cell_of_box (bx_later HB.out B_t.out) 1 rfl
                        have t2 := cell_of_box (bx_later HB.out B_t.out) 2 rfl
                        have t3 := cell_of_box (bx_later HB.out B_t.out) 3 rfl
                        have t4 := cell_of_box (bx_later HB.out B_t.out) 4 rfl
                        refine wp_region_flow (by kernel_rfl) 10 [(4, ⟨fun v => ∃ a k, v = .slice a sx.length k, fun v _ _ w' => ∃ a k, v = .slice a sx.length k ∧ Rd w' (.slice a sx.length k) sx.length (sx.map ic)⟩), (9, ⟨fun v => ∃ a k, v = .slice a sy.length k, fun v _ _ w' => ∃ a k, v = .slice a sy.length k ∧ Rd w' (.slice a sy.length k) sy.length (sy.map ic)⟩)] (by kernel_rfl) ?_ ?_ ?_
                        · intro x hx
                          simp only [List.mem_cons, List.not_mem_nil, or_false] at hx
                          rcases hx with rfl | rfl
                          · exact ⟨_, none, 0, rfl⟩
                          · exact ⟨_, none, 0, rfl⟩
                        · intro x hx v lo hi w w' h hb
                          simp only [List.mem_cons, List.not_mem_nil, or_false] at hx
                          rcases hx with rfl | rfl
                          · obtain ⟨a, k, rfl, ho⟩ := h
                            exact ⟨a, k, rfl, ho.later hb⟩
                          · obtain ⟨a, k, rfl, ho⟩ := h
                            exact ⟨a, k, rfl, ho.later hb⟩
                        · intro lo hi
                          have kc0 := cell_regrown c0
                          have kc1 := cell_regrown c1
                          have kc2 := cell_regrown c2
                          have kc3 := cell_regrown c3
                          have kc4 := cell_regrown c4
                          have kf0 := cell_regrown f0
                          have kf1 := cell_regrown f1
                          have kf2 := cell_regrown f2
                          have kf3 := cell_regrown f3
                          have kf4 := cell_regrown f4
                          have kf5 := cell_regrown f5
                          have ky0 := cell_regrown y0
                          have ky1 := cell_regrown y1
                          have ky2 := cell_regrown y2
                          have kd0 := cell_regrown d0
                          have kd1 := cell_regrown d1
                          have kq0 := cell_regrown q0
                          have kq1 := cell_regrown q1
                          have kr0 := cell_regrown r0
                          have kr1 := cell_regrown r1
                          have kr2 := cell_regrown r2
                          have kr3 := cell_regrown r3
                          have kr4 := cell_regrown r4
                          have ks0 := cell_regrown s0
                          have ks1 := cell_regrown s1
                          have ks2 := cell_regrown s2
                          have ks3 := cell_regrown s3
                          have ks4 := cell_regrown s4
                          have kt0 := cell_regrown t0
                          have kt1 := cell_regrown t1
                          have kt2 := cell_regrown t2
                          have kt3 := cell_regrown t3
                          have kt4 := cell_regrown t4
                          refine flowW_plain rfl ?_
                          go_big_quiet_step (fail)
                          refine wpQuiet_nil ?_
                          refine flowW_plain rfl ?_
                          go_big_quiet_step (fail)
                          refine wpQuiet_nil ?_
                          refine flowW_plain rfl ?_
                          go_big_quiet_step (fail)
                          refine wpQuiet_nil ?_
                          refine flowW_plain rfl ?_
                          go_big_quiet_step (fail)
                          refine wpQuiet_nil ?_
                          refine flowW_call rfl rfl ?_ ?_
                          · intro W hW hF K hK
                            clear kc0 kc1 kc2 kc3 kc4 kf0 kf1 kf2 kf3 kf4 kf5 ky0 ky1 ky2 kd0 kd1 kq0 kq1 kr0 kr1 kr2 kr3 kr4 ks0 ks1 ks2 ks3 ks4 kt0 kt1 kt2 kt3 kt4
                            go_wp2_with fail
                            refine (refSet_any _ z0 1 _ W (Z0.out.later (below_then HB.out hW)) (by decide) (by decide) (by omega)).mono ?_
                            rintro e wq ⟨v, rfl, ho, hbq⟩
                            rw [HSX.out] at ho
                            obtain ⟨a, k, rfl, -, -, -, -⟩ := id ho
                            go_wp2_with fail
                            exact hK _ _ ⟨a, k, rfl⟩ ⟨a, k, rfl, ho⟩ hbq
                          rintro v ⟨a4, k4, rfl⟩ K hK
                          go_simp
                          refine hK _ ?_
                          clear hK K
                          refine flowW_plain rfl ?_
                          go_big_quiet_step (fail)
                          refine wpQuiet_nil ?_
                          refine flowW_plain rfl ?_
                          go_big_quiet_step (fail)
                          refine wpQuiet_nil ?_
                          refine flowW_plain rfl ?_
                          go_big_quiet_step (fail)
                          refine wpQuiet_nil ?_
                          refine flowW_plain rfl ?_
                          go_big_quiet_step (fail)
                          refine wpQuiet_nil ?_
                          refine flowW_call rfl rfl ?_ ?_
                          · intro W hW hF K hK
                            clear kc0 kc1 kc2 kc3 kc4 kf0 kf1 kf2 kf3 kf4 kf5 ky0 ky1 ky2 kd0 kd1 kq0 kq1 kr0 kr1 kr2 kr3 kr4 ks0 ks1 ks2 ks3 ks4 kt0 kt1 kt2 kt3 kt4
                            go_wp2_with fail
                            refine (refSet_any _ z0 2 _ W (Z0.out.later (below_then HB.out hW)) (by decide) (by decide) (by omega)).mono ?_
                            rintro e wq ⟨v, rfl, ho, hbq⟩
                            rw [HSY.out] at ho
                            obtain ⟨a, k, rfl, -, -, -, -⟩ := id ho
                            go_wp2_with fail
                            exact hK _ _ ⟨a, k, rfl⟩ ⟨a, k, rfl, ho⟩ hbq
                          rintro v ⟨a9, k9, rfl⟩ K hK
                          go_simp
                          refine hK _ ?_
                          clear hK K
                          refine flowW_end fun wz hwz hF hD => ?_
                          clear kc0 kc1 kc2 kc3 kc4 kf0 kf1 kf2 kf3 kf4 kf5 ky0 ky1 ky2 kd0 kd1 kq0 kq1 kr0 kr1 kr2 kr3 kr4 ks0 ks1 ks2 ks3 ks4 kt0 kt1 kt2 kt3 kt4
                          simp only [List.drop_succ_cons, List.drop_zero]
                          obtain ⟨_, _, he, h4⟩ := hF 4
                          cases he
                          obtain ⟨_, _, he, h9⟩ := hF 9
                          cases he
                          have HX := Lib.hid h4
                          have HY := Lib.hid h9
                          replace HB := Lib.hid (below_then HB.out hwz)
                          clear hwz hF hD h4 h9 c0 c1 c2 c3 c4 f0 f1 f2 f3 f4 f5 y0 y1 y2 d0 d1 q0 q1 r0 r1 r2 r3 r4 s0 s1 s2 s3 s4 t0 t1 t2 t3 t4
                          have c0 := cell_of_box (bx_later HB.out B_c.out) 0 rfl
                          have c1 := cell_of_box (bx_later HB.out B_c.out) 1 rfl
                          have c2 := cell_of_box (bx_later HB.out B_c.out) 2 rfl
                          have c3 := cell_of_box (bx_later HB.out B_c.out) 3 rfl
                          have c4 := cell_of_box (bx_later HB.out B_c.out) 4 rfl
                          have f0 := cell_of_box (bx_later HB.out B_f.out) 0 rfl
                          have f1 := cell_of_box (bx_later HB.out B_f.out) 1 rfl
                          have f2 := cell_of_box (bx_later HB.out B_f.out) 2 rfl
                          have f3 := cell_of_box (bx_later HB.out B_f.out) 3 rfl
                          have f4 := cell_of_box (bx_later HB.out B_f.out) 4 rfl
                          have f5 := cell_of_box (bx_later HB.out B_f.out) 5 rfl
                          have y0 := cell_of_box (bx_later HB.out B_y.out) 0 rfl
                          have y1 := cell_of_box (bx_later HB.out B_y.out) 1 rfl
                          have y2 := cell_of_box (bx_later HB.out B_y.out) 2 rfl
                          have d0 := cell_of_box (bx_later HB.out B_d.out) 0 rfl
                          have d1 := cell_of_box (bx_later HB.out B_d.out) 1 rfl
                          have q0 := cell_of_box (bx_later HB.out B_q.out) 0 rfl
                          have q1 := cell_of_box (bx_later HB.out B_q.out) 1 rfl
                          have r0 := cell_of_box (bx_later HB.out B_r.out) 0 rfl
                          have r1 := cell_of_box (bx_later HB.out B_r.out) 1 rfl
                          have r2 := cell_of_box (bx_later HB.out B_r.out) 2 rfl
                          have r3 := cell_of_box (bx_later HB.out B_r.out) 3 rfl
                          have r4 := cell_of_box (bx_later HB.out B_r.out) 4 rfl
                          have s0 := cell_of_box (bx_later HB.out B_s.out) 0 rfl
                          have s1 := cell_of_box (bx_later HB.out B_s.out) 1 rfl
                          have s2 := cell_of_box (bx_later HB.out B_s.out) 2 rfl
                          have s3 := cell_of_box (bx_later HB.out B_s.out) 3 rfl
                          have s4 := cell_of_box (bx_later HB.out B_s.out) 4 rfl
                          have t0 := cell_of_box (bx_later HB.out B_t.out) 0 rfl
                          have t1 := cell_of_box (bx_later HB.out B_t.out) 1 rfl
                          have t2 := cell_of_box (bx_later HB.out B_t.out) 2 rfl
                          have t3 := cell_of_box (bx_later HB.out B_t.out) 3 rfl
                          have t4 := cell_of_box (bx_later HB.out B_t.out) 4 rfl
                          go_upto_region 14 with fail
                          refine wp_region_flow (by kernel_rfl) 39 [(0, ⟨fun v => v = .bool true, fun _ _ _ _ => True⟩), (6, ⟨fun v => ∃ a k, v = .agg #[.int .i64 1, .int .i64 0, .int .i64 0, .string ⟨#[]⟩, .slice a mc.length k], fun v _ _ w' => ∃ a k, v = .agg #[.int .i64 1, .int .i64 0, .int .i64 0, .string ⟨#[]⟩, .slice a mc.length k] ∧ PRd w' (.slice a mc.length k) mc⟩), (8, ⟨fun v => v = .bool true, fun _ _ _ _ => True⟩), (15, ⟨fun v => ∃ a k, v = .agg #[.int .i64 1, .int .i64 0, .int .i64 0, .string ⟨#[]⟩, .slice a mc.length k], fun v _ _ w' => ∃ a k, v = .agg #[.int .i64 1, .int .i64 0, .int .i64 0, .string ⟨#[]⟩, .slice a mc.length k] ∧ PRd w' (.slice a mc.length k) mc⟩), (17, ⟨fun v => v = .bool true, fun _ _ _ _ => True⟩), (24, ⟨fun v => ∃ a k, v = .agg #[.int .i64 1, .int .i64 0, .int .i64 0, .string ⟨#[]⟩, .slice a ma.length k], fun v _ _ w' => ∃ a k, v = .agg #[.int .i64 1, .int .i64 0, .int .i64 0, .string ⟨#[]⟩, .slice a ma.length k] ∧ PRd w' (.slice a ma.length k) ma⟩), (26, ⟨fun v => v = .bool true, fun _ _ _ _ => True⟩), (34, ⟨fun v => ∃ a k, v = .agg #[.int .i64 1, .int .i64 0, .int .i64 0, .string ⟨#[]⟩, .slice a ma.length k], fun v _ _ w' => ∃ a k, v = .agg #[.int .i64 1, .int .i64 0, .int .i64 0, .string ⟨#[]⟩, .slice a ma.length k] ∧ PRd w' (.slice a ma.length k) ma⟩), (36, ⟨fun v => v = .bool true, fun _ _ _ _ => True⟩)] (by kernel_rfl) ?_ ?_ ?_
                          · intro x hx
                            simp only [List.mem_cons, List.not_mem_nil, or_false] at hx
                            rcases hx with rfl | rfl | rfl | rfl | rfl | rfl | rfl | rfl | rfl
                            · exact ⟨_, rfl⟩
                            · exact ⟨_, none, 0, rfl⟩
                            · exact ⟨_, rfl⟩
                            · exact ⟨_, none, 0, rfl⟩
                            · exact ⟨_, rfl⟩
                            · exact ⟨_, none, 0, rfl⟩
                            · exact ⟨_, rfl⟩
                            · exact ⟨_, none, 0, rfl⟩
                            · exact ⟨_, rfl⟩
                          · intro x hx v lo hi w w' h hb
                            simp only [List.mem_cons, List.not_mem_nil, or_false] at hx
                            rcases hx with rfl | rfl | rfl | rfl | rfl | rfl | rfl | rfl | rfl
                            · exact trivial
                            · obtain ⟨a, k, rfl, ho⟩ := h
                              exact ⟨a, k, rfl, ho.later hb⟩
                            · exact trivial
                            · obtain ⟨a, k, rfl, ho⟩ := h
                              exact ⟨a, k, rfl, ho.later hb⟩
                            · exact trivial
                            · obtain ⟨a, k, rfl, ho⟩ := h
                              exact ⟨a, k, rfl, ho.later hb⟩
                            · exact trivial
                            · obtain ⟨a, k, rfl, ho⟩ := h
                              exact ⟨a, k, rfl, ho.later hb⟩
                            · exact trivial
                          · intro lo hi
                            have kc0 := cell_regrown c0
                            have kc1 := cell_regrown c1
                            have kc2 := cell_regrown c2
                            have kc3 := cell_regrown c3
                            have kc4 := cell_regrown c4
                            have kf0 := cell_regrown f0
                            have kf1 := cell_regrown f1
                            have kf2 := cell_regrown f2
                            have kf3 := cell_regrown f3
                            have kf4 := cell_regrown f4
                            have kf5 := cell_regrown f5
                            have ky0 := cell_regrown y0
                            have ky1 := cell_regrown y1
                            have ky2 := cell_regrown y2
                            have kd0 := cell_regrown d0
                            have kd1 := cell_regrown d1
                            have kq0 := cell_regrown q0
                            have kq1 := cell_regrown q1
                            have kr0 := cell_regrown r0
                            have kr1 := cell_regrown r1
                            have kr2 := cell_regrown r2
                            have kr3 := cell_regrown r3
                            have kr4 := cell_regrown r4
                            have ks0 := cell_regrown s0
                            have ks1 := cell_regrown s1
                            have ks2 := cell_regrown s2
                            have ks3 := cell_regrown s3
                            have ks4 := cell_regrown s4
                            have kt0 := cell_regrown t0
                            have kt1 := cell_regrown t1
                            have kt2 := cell_regrown t2
                            have kt3 := cell_regrown t3
                            have kt4 := cell_regrown t4
                            refine flowW_call rfl rfl ?_ ?_
                            · intro W hW hF K hK
                              clear kc0 kc1 kc2 kc3 kc4 kf0 kf1 kf2 kf3 kf4 kf5 ky0 ky1 ky2 kd0 kd1 kq0 kq1 kr0 kr1 kr2 kr3 kr4 ks0 ks1 ks2 ks3 ks4 kt0 kt1 kt2 kt3 kt4
                              go_wp2_with fail
                              refine (alive_any _).mono ?_
                              rintro e wq ⟨rfl, hbq⟩
                              go_wp2_with fail
                              exact hK _ _ rfl trivial hbq
                            rintro v rfl K hK
                            go_simp
                            refine hK _ ?_
                            clear hK K
                            refine flowW_plain rfl ?_
                            go_big_quiet_step (fail)
                            refine wpQuiet_nil ?_
                            refine flowW_plain rfl ?_
                            go_big_quiet_step (fail)
                            refine wpQuiet_nil ?_
                            refine flowW_plain rfl ?_
                            go_big_quiet_step (fail)
                            refine wpQuiet_nil ?_
                            refine flowW_plain rfl ?_
                            go_big_quiet_step (fail)
                            refine wpQuiet_nil ?_
                            refine flowW_plain rfl ?_
                            go_big_quiet_step (fail)
                            refine wpQuiet_nil ?_
                            refine flowW_call rfl rfl ?_ ?_
                            · intro W hW hF K hK
                              clear kc0 kc1 kc2 kc3 kc4 kf0 kf1 kf2 kf3 kf4 kf5 ky0 ky1 ky2 kd0 kd1 kq0 kq1 kr0 kr1 kr2 kr3 kr4 ks0 ks1 ks2 ks3 ks4 kt0 kt1 kt2 kt3 kt4
                              go_wp2_with fail
                              refine (join_p sx sy (P_r.out.later (below_then HB.out hW)) (P_s.out.later (below_then HB.out hW)) (HX.out.later hW) (HY.out.later hW) (by omega) (by omega) HJ1.out).mono ?_
                              rintro e wq ⟨a, k, rfl, ho, hbq⟩
                              go_wp2_with fail
                              exact hK _ _ ⟨a, k, rfl⟩ ⟨a, k, rfl, ho⟩ hbq
                            rintro v ⟨a6, k6, rfl⟩ K hK
                            go_simp
                            refine hK _ ?_
                            clear hK K
                            refine flowW_plain rfl ?_
                            go_big_quiet_step (fail)
                            refine wpQuiet_nil ?_
                            refine flowW_call rfl rfl ?_ ?_
                            · intro W hW hF K hK
                              clear kc0 kc1 kc2 kc3 kc4 kf0 kf1 kf2 kf3 kf4 kf5 ky0 ky1 ky2 kd0 kd1 kq0 kq1 kr0 kr1 kr2 kr3 kr4 ks0 ks1 ks2 ks3 ks4 kt0 kt1 kt2 kt3 kt4
                              obtain ⟨_, _, he6, h6⟩ := hF 6 rfl
                              cases he6
                              go_wp2_with fail
                              refine (same_p mc h6 (P_t.out.later (below_then HB.out hW)) (by omega)).mono ?_
                              rintro e wq ⟨rfl, hbq⟩
                              go_wp2_with fail
                              exact hK _ _ rfl trivial hbq
                            rintro v rfl K hK
                            go_simp
                            refine hK _ ?_
                            clear hK K
                            refine flowW_plain rfl ?_
                            go_big_quiet_step (fail)
                            refine wpQuiet_nil ?_
                            refine flowW_plain rfl ?_
                            go_big_quiet_step (fail)
                            refine wpQuiet_nil ?_
                            refine flowW_plain rfl ?_
                            go_big_quiet_step (fail)
                            refine wpQuiet_nil ?_
                            refine flowW_plain rfl ?_
                            go_big_quiet_step (fail)
                            refine wpQuiet_nil ?_
                            refine flowW_plain rfl ?_
                            go_big_quiet_step (fail)
                            refine wpQuiet_nil ?_
                            refine flowW_plain rfl ?_
                            go_big_quiet_step (fail)
                            refine wpQuiet_nil ?_
                            refine flowW_call rfl rfl ?_ ?_
                            · intro W hW hF K hK
                              clear kc0 kc1 kc2 kc3 kc4 kf0 kf1 kf2 kf3 kf4 kf5 ky0 ky1 ky2 kd0 kd1 kq0 kq1 kr0 kr1 kr2 kr3 kr4 ks0 ks1 ks2 ks3 ks4 kt0 kt1 kt2 kt3 kt4
                              go_wp2_with fail
                              refine (join_p sy sx (P_s.out.later (below_then HB.out hW)) (P_r.out.later (below_then HB.out hW)) (HY.out.later hW) (HX.out.later hW) (by omega) (by omega) HJ2.out).mono ?_
                              rintro e wq ⟨a, k, rfl, ho, hbq⟩
                              go_wp2_with fail
                              exact hK _ _ ⟨a, k, rfl⟩ ⟨a, k, rfl, ho⟩ hbq
                            rintro v ⟨a15, k15, rfl⟩ K hK
                            go_simp
                            refine hK _ ?_
                            clear hK K
                            refine flowW_plain rfl ?_
                            go_big_quiet_step (fail)
                            refine wpQuiet_nil ?_
                            refine flowW_call rfl rfl ?_ ?_
                            · intro W hW hF K hK
                              clear kc0 kc1 kc2 kc3 kc4 kf0 kf1 kf2 kf3 kf4 kf5 ky0 ky1 ky2 kd0 kd1 kq0 kq1 kr0 kr1 kr2 kr3 kr4 ks0 ks1 ks2 ks3 ks4 kt0 kt1 kt2 kt3 kt4
                              obtain ⟨_, _, he15, h15⟩ := hF 15 rfl
                              cases he15
                              go_wp2_with fail
                              refine (same_p mc h15 (P_t.out.later (below_then HB.out hW)) (by omega)).mono ?_
                              rintro e wq ⟨rfl, hbq⟩
                              go_wp2_with fail
                              exact hK _ _ rfl trivial hbq
                            rintro v rfl K hK
                            go_simp
                            refine hK _ ?_
                            clear hK K
                            refine flowW_plain rfl ?_
                            go_big_quiet_step (fail)
                            refine wpQuiet_nil ?_
                            refine flowW_plain rfl ?_
                            go_big_quiet_step (fail)
                            refine wpQuiet_nil ?_
                            refine flowW_plain rfl ?_
                            go_big_quiet_step (fail)
                            refine wpQuiet_nil ?_
                            refine flowW_plain rfl ?_
                            go_big_quiet_step (fail)
                            refine wpQuiet_nil ?_
                            refine flowW_plain rfl ?_
                            go_big_quiet_step (fail)
                            refine wpQuiet_nil ?_
                            refine flowW_plain rfl ?_
                            go_big_quiet_step (fail)
                            refine wpQuiet_nil ?_
                            refine flowW_call rfl rfl ?_ ?_
                            · intro W hW hF K hK
                              clear kc0 kc1 kc2 kc3 kc4 kf0 kf1 kf2 kf3 kf4 kf5 ky0 ky1 ky2 kd0 kd1 kq0 kq1 kr0 kr1 kr2 kr3 kr4 ks0 ks1 ks2 ks3 ks4 kt0 kt1 kt2 kt3 kt4
                              go_wp2_with fail
                              refine (join_p sx sx (P_r.out.later (below_then HB.out hW)) (P_r.out.later (below_then HB.out hW)) (HX.out.later hW) (HX.out.later hW) (by omega) (by omega) HJ3.out).mono ?_
                              rintro e wq ⟨a, k, rfl, ho, hbq⟩
                              go_wp2_with fail
                              exact hK _ _ ⟨a, k, rfl⟩ ⟨a, k, rfl, ho⟩ hbq
                            rintro v ⟨a24, k24, rfl⟩ K hK
                            go_simp
                            refine hK _ ?_
                            clear hK K
                            refine flowW_plain rfl ?_
                            go_big_quiet_step (fail)
                            refine wpQuiet_nil ?_
                            refine flowW_call rfl rfl ?_ ?_
                            · intro W hW hF K hK
                              clear kc0 kc1 kc2 kc3 kc4 kf0 kf1 kf2 kf3 kf4 kf5 ky0 ky1 ky2 kd0 kd1 kq0 kq1 kr0 kr1 kr2 kr3 kr4 ks0 ks1 ks2 ks3 ks4 kt0 kt1 kt2 kt3 kt4
                              obtain ⟨_, _, he24, h24⟩ := hF 24 rfl
                              cases he24
                              go_wp2_with fail
                              refine (same_p ma h24 (P_r.out.later (below_then HB.out hW)) (by omega)).mono ?_
                              rintro e wq ⟨rfl, hbq⟩
                              go_wp2_with fail
                              exact hK _ _ rfl trivial hbq
                            rintro v rfl K hK
                            go_simp
                            refine hK _ ?_
                            clear hK K
                            refine flowW_plain rfl ?_
                            go_big_quiet_step (fail)
                            refine wpQuiet_nil ?_
                            refine flowW_plain rfl ?_
                            go_big_quiet_step (fail)
                            refine wpQuiet_nil ?_
                            refine flowW_plain rfl ?_
                            go_big_quiet_step (fail)
                            refine wpQuiet_nil ?_
                            refine flowW_plain rfl ?_
                            go_big_quiet_step (fail)
                            refine wpQuiet_nil ?_
                            refine flowW_plain rfl ?_
                            go_big_quiet_step (fail)
                            refine wpQuiet_nil ?_
                            refine flowW_plain rfl ?_
                            go_big_quiet_step (fail)
                            refine wpQuiet_nil ?_
                            refine flowW_plain rfl ?_
                            go_big_quiet_step (fail)
                            refine wpQuiet_nil ?_
                            refine flowW_call rfl rfl ?_ ?_
                            · intro W hW hF K hK
                              clear kc0 kc1 kc2 kc3 kc4 kf0 kf1 kf2 kf3 kf4 kf5 ky0 ky1 ky2 kd0 kd1 kq0 kq1 kr0 kr1 kr2 kr3 kr4 ks0 ks1 ks2 ks3 ks4 kt0 kt1 kt2 kt3 kt4
                              go_wp2_with fail
                              refine (join_p z0 sx (P1.out.later (below_then HB.out hW)) (P_r.out.later (below_then HB.out hW)) (Z0.out.later (below_then HB.out hW)) (HX.out.later hW) (by omega) (by omega) HJ4.out).mono ?_
                              rintro e wq ⟨a, k, rfl, ho, hbq⟩
                              go_wp2_with fail
                              exact hK _ _ ⟨a, k, rfl⟩ ⟨a, k, rfl, ho⟩ hbq
                            rintro v ⟨a34, k34, rfl⟩ K hK
                            go_simp
                            refine hK _ ?_
                            clear hK K
                            refine flowW_plain rfl ?_
                            go_big_quiet_step (fail)
                            refine wpQuiet_nil ?_
                            refine flowW_call rfl rfl ?_ ?_
                            · intro W hW hF K hK
                              clear kc0 kc1 kc2 kc3 kc4 kf0 kf1 kf2 kf3 kf4 kf5 ky0 ky1 ky2 kd0 kd1 kq0 kq1 kr0 kr1 kr2 kr3 kr4 ks0 ks1 ks2 ks3 ks4 kt0 kt1 kt2 kt3 kt4
                              obtain ⟨_, _, he34, h34⟩ := hF 34 rfl
                              cases he34
                              go_wp2_with fail
                              refine (same_p ma h34 (P_r.out.later (below_then HB.out hW)) (by omega)).mono ?_
                              rintro e wq ⟨rfl, hbq⟩
                              go_wp2_with fail
                              exact hK _ _ rfl trivial hbq
                            rintro v rfl K hK
                            go_simp
                            refine hK _ ?_
                            clear hK K
                            refine flowW_plain rfl ?_
                            go_big_quiet_step (fail)
                            refine wpQuiet_nil ?_
                            refine flowW_plain rfl ?_
                            go_big_quiet_step (fail)
                            refine wpQuiet_nil ?_
                            refine flowW_end fun wz hwz hF hD => ?_
                            clear kc0 kc1 kc2 kc3 kc4 kf0 kf1 kf2 kf3 kf4 kf5 ky0 ky1 ky2 kd0 kd1 kq0 kq1 kr0 kr1 kr2 kr3 kr4 ks0 ks1 ks2 ks3 ks4 kt0 kt1 kt2 kt3 kt4
                            simp only [List.drop_succ_cons, List.drop_zero]
                            replace HB := Lib.hid (below_then HB.out hwz)
                            clear hwz hF c0 c1 c2 c3 c4 f0 f1 f2 f3 f4 f5 y0 y1 y2 d0 d1 q0 q1 r0 r1 r2 r3 r4 s0 s1 s2 s3 s4 t0 t1 t2 t3 t4
                            have c0 := cell_of_box (bx_later HB.out B_c.out) 0 rfl
                            have c1 := cell_of_box (bx_later HB.out B_c.out) 1 rfl
                            have c2 := cell_of_box (bx_later HB.out B_c.out) 2 rfl
                            have c3 := cell_of_box (bx_later HB.out B_c.out) 3 rfl
                            have c4 := cell_of_box (bx_later HB.out B_c.out) 4 rfl
                            have f0 := cell_of_box (bx_later HB.out B_f.out) 0 rfl
                            have f1 := cell_of_box (bx_later HB.out B_f.out) 1 rfl
                            have f2 := cell_of_box (bx_later HB.out B_f.out) 2 rfl
                            have f3 := cell_of_box (bx_later HB.out B_f.out) 3 rfl
                            have f4 := cell_of_box (bx_later HB.out B_f.out) 4 rfl
                            have f5 := cell_of_box (bx_later HB.out B_f.out) 5 rfl
                            have y0 := cell_of_box (bx_later HB.out B_y.out) 0 rfl
                            have y1 := cell_of_box (bx_later HB.out B_y.out) 1 rfl
                            have y2 := cell_of_box (bx_later HB.out B_y.out) 2 rfl
                            have d0 := cell_of_box (bx_later HB.out B_d.out) 0 rfl
                            have d1 := cell_of_box (bx_later HB.out B_d.out) 1 rfl
                            have q0 := cell_of_box (bx_later HB.out B_q.out) 0 rfl
                            have q1 := cell_of_box (bx_later HB.out B_q.out) 1 rfl
                            have r0 := cell_of_box (bx_later HB.out B_r.out) 0 rfl
                            have r1 := cell_of_box (bx_later HB.out B_r.out) 1 rfl
                            have r2 := cell_of_box (bx_later HB.out B_r.out) 2 rfl
                            have r3 := cell_of_box (bx_later HB.out B_r.out) 3 rfl
                            have r4 := cell_of_box (bx_later HB.out B_r.out) 4 rfl
                            have s0 := cell_of_box (bx_later HB.out B_s.out) 0 rfl
                            have s1 := cell_of_box (bx_later HB.out B_s.out) 1 rfl
                            have s2 := cell_of_box (bx_later HB.out B_s.out) 2 rfl
                            have s3 := cell_of_box (bx_later HB.out B_s.out) 3 rfl
                            have s4 := cell_of_box (bx_later HB.out B_s.out) 4 rfl
                            have t0 := cell_of_box (bx_later HB.out B_t.out) 0 rfl
                            have t1 := cell_of_box (bx_later HB.out B_t.out) 1 rfl
                            have t2 := cell_of_box (bx_later HB.out B_t.out) 2 rfl
                            have t3 := cell_of_box (bx_later HB.out B_t.out) 3 rfl
                            have t4 := cell_of_box (bx_later HB.out B_t.out) 4 rfl
                            go_wp2_with fail
                            go_ret
                            exact ⟨by first | rfl | exact ret_bool (by simp), below_then HB1.out HB.out⟩
            · have F5 := Lib.hid hu5
              clear hu5
              go_enter Try.func9, Try.ntmps9
              go_wp2_with fail
              rw [HW.out]
              go_wp2_with fail
              refine (few_p true F0.out (P1.out.later HB.out)).mono ?_
              rintro e wn ⟨rfl, hb⟩
              replace HB := Lib.hid (below_then HB.out (by first | exact hb | exact below_alloc_then hb | exact below_alloc_then (below_alloc_then hb)))
              clear hb c0 c1 c2 c3 c4 f0 f1 f2 f3 f4 f5 y0 y1 y2
              have c0 := cell_of_box (bx_later HB.out B_c.out) 0 rfl
              have c1 := cell_of_box (bx_later HB.out B_c.out) 1 rfl
              have c2 := cell_of_box (bx_later HB.out B_c.out) 2 rfl
              have c3 := cell_of_box (bx_later HB.out B_c.out) 3 rfl
              have c4 := cell_of_box (bx_later HB.out B_c.out) 4 rfl
              have f0 := cell_of_box (bx_later HB.out B_f.out) 0 rfl
              have f1 := cell_of_box (bx_later HB.out B_f.out) 1 rfl
              have f2 := cell_of_box (bx_later HB.out B_f.out) 2 rfl
              have f3 := cell_of_box (bx_later HB.out B_f.out) 3 rfl
              have f4 := cell_of_box (bx_later HB.out B_f.out) 4 rfl
              have f5 := cell_of_box (bx_later HB.out B_f.out) 5 rfl
              have y0 := cell_of_box (bx_later HB.out B_y.out) 0 rfl
              have y1 := cell_of_box (bx_later HB.out B_y.out) 1 rfl
              have y2 := cell_of_box (bx_later HB.out B_y.out) 2 rfl
              go_wp2_with fail
              refine (vecRight_b true F2.out (Z0.out.later HB.out)).mono ?_
              rintro e wn ⟨rfl, hb⟩
              replace HB := Lib.hid (below_then HB.out (by first | exact hb | exact below_alloc_then hb | exact below_alloc_then (below_alloc_then hb)))
              clear hb c0 c1 c2 c3 c4 f0 f1 f2 f3 f4 f5 y0 y1 y2
              have c0 := cell_of_box (bx_later HB.out B_c.out) 0 rfl
              have c1 := cell_of_box (bx_later HB.out B_c.out) 1 rfl
              have c2 := cell_of_box (bx_later HB.out B_c.out) 2 rfl
              have c3 := cell_of_box (bx_later HB.out B_c.out) 3 rfl
              have c4 := cell_of_box (bx_later HB.out B_c.out) 4 rfl
              have f0 := cell_of_box (bx_later HB.out B_f.out) 0 rfl
              have f1 := cell_of_box (bx_later HB.out B_f.out) 1 rfl
              have f2 := cell_of_box (bx_later HB.out B_f.out) 2 rfl
              have f3 := cell_of_box (bx_later HB.out B_f.out) 3 rfl
              have f4 := cell_of_box (bx_later HB.out B_f.out) 4 rfl
              have f5 := cell_of_box (bx_later HB.out B_f.out) 5 rfl
              have y0 := cell_of_box (bx_later HB.out B_y.out) 0 rfl
              have y1 := cell_of_box (bx_later HB.out B_y.out) 1 rfl
              have y2 := cell_of_box (bx_later HB.out B_y.out) 2 rfl
              go_wp2_with fail
              refine (right_b true F3.out (P1.out.later HB.out) (by omega)).mono ?_
              rintro e wn ⟨rfl, hb⟩
              replace HB := Lib.hid (below_then HB.out (by first | exact hb | exact below_alloc_then hb | exact below_alloc_then (below_alloc_then hb)))
              clear hb c0 c1 c2 c3 c4 f0 f1 f2 f3 f4 f5 y0 y1 y2
              have c0 := cell_of_box (bx_later HB.out B_c.out) 0 rfl
              have c1 := cell_of_box (bx_later HB.out B_c.out) 1 rfl
              have c2 := cell_of_box (bx_later HB.out B_c.out) 2 rfl
              have c3 := cell_of_box (bx_later HB.out B_c.out) 3 rfl
              have c4 := cell_of_box (bx_later HB.out B_c.out) 4 rfl
              have f0 := cell_of_box (bx_later HB.out B_f.out) 0 rfl
              have f1 := cell_of_box (bx_later HB.out B_f.out) 1 rfl
              have f2 := cell_of_box (bx_later HB.out B_f.out) 2 rfl
              have f3 := cell_of_box (bx_later HB.out B_f.out) 3 rfl
              have f4 := cell_of_box (bx_later HB.out B_f.out) 4 rfl
              have f5 := cell_of_box (bx_later HB.out B_f.out) 5 rfl
              have y0 := cell_of_box (bx_later HB.out B_y.out) 0 rfl
              have y1 := cell_of_box (bx_later HB.out B_y.out) 1 rfl
              have y2 := cell_of_box (bx_later HB.out B_y.out) 2 rfl
              go_wp2_with fail
              refine (refUpto_t F4.out (Z1.out.later HB.out) (Z0.out.later HB.out) (by omega) (by omega)).mono ?_
              rintro e wn ⟨rfl, hb⟩
              replace HB := Lib.hid (below_then HB.out (by first | exact hb | exact below_alloc_then hb | exact below_alloc_then (below_alloc_then hb)))
              clear hb c0 c1 c2 c3 c4 f0 f1 f2 f3 f4 f5 y0 y1 y2
              have c0 := cell_of_box (bx_later HB.out B_c.out) 0 rfl
              have c1 := cell_of_box (bx_later HB.out B_c.out) 1 rfl
              have c2 := cell_of_box (bx_later HB.out B_c.out) 2 rfl
              have c3 := cell_of_box (bx_later HB.out B_c.out) 3 rfl
              have c4 := cell_of_box (bx_later HB.out B_c.out) 4 rfl
              have f0 := cell_of_box (bx_later HB.out B_f.out) 0 rfl
              have f1 := cell_of_box (bx_later HB.out B_f.out) 1 rfl
              have f2 := cell_of_box (bx_later HB.out B_f.out) 2 rfl
              have f3 := cell_of_box (bx_later HB.out B_f.out) 3 rfl
              have f4 := cell_of_box (bx_later HB.out B_f.out) 4 rfl
              have f5 := cell_of_box (bx_later HB.out B_f.out) 5 rfl
              have y0 := cell_of_box (bx_later HB.out B_y.out) 0 rfl
              have y1 := cell_of_box (bx_later HB.out B_y.out) 1 rfl
              have y2 := cell_of_box (bx_later HB.out B_y.out) 2 rfl
              go_wp2_with fail
              refine (refUpto_f F5.out (Z2.out.later HB.out) (Z0.out.later HB.out) (by omega) (by omega)).mono ?_
              rintro e wn ⟨rfl, hb⟩
              replace HB := Lib.hid (below_then HB.out (by first | exact hb | exact below_alloc_then hb | exact below_alloc_then (below_alloc_then hb)))
              clear hb c0 c1 c2 c3 c4 f0 f1 f2 f3 f4 f5 y0 y1 y2
              have c0 := cell_of_box (bx_later HB.out B_c.out) 0 rfl
              have c1 := cell_of_box (bx_later HB.out B_c.out) 1 rfl
              have c2 := cell_of_box (bx_later HB.out B_c.out) 2 rfl
              have c3 := cell_of_box (bx_later HB.out B_c.out) 3 rfl
              have c4 := cell_of_box (bx_later HB.out B_c.out) 4 rfl
              have f0 := cell_of_box (bx_later HB.out B_f.out) 0 rfl
              have f1 := cell_of_box (bx_later HB.out B_f.out) 1 rfl
              have f2 := cell_of_box (bx_later HB.out B_f.out) 2 rfl
              have f3 := cell_of_box (bx_later HB.out B_f.out) 3 rfl
              have f4 := cell_of_box (bx_later HB.out B_f.out) 4 rfl
              have f5 := cell_of_box (bx_later HB.out B_f.out) 5 rfl
              have y0 := cell_of_box (bx_later HB.out B_y.out) 0 rfl
              have y1 := cell_of_box (bx_later HB.out B_y.out) 1 rfl
              have y2 := cell_of_box (bx_later HB.out B_y.out) 2 rfl
              go_wp2_with fail
              refine (alive_any _).mono ?_
              rintro e wn ⟨rfl, hb⟩
              replace HB := Lib.hid (below_then HB.out (by first | exact hb | exact below_alloc_then hb | exact below_alloc_then (below_alloc_then hb)))
              clear hb c0 c1 c2 c3 c4 f0 f1 f2 f3 f4 f5 y0 y1 y2
              have c0 := cell_of_box (bx_later HB.out B_c.out) 0 rfl
              have c1 := cell_of_box (bx_later HB.out B_c.out) 1 rfl
              have c2 := cell_of_box (bx_later HB.out B_c.out) 2 rfl
              have c3 := cell_of_box (bx_later HB.out B_c.out) 3 rfl
              have c4 := cell_of_box (bx_later HB.out B_c.out) 4 rfl
              have f0 := cell_of_box (bx_later HB.out B_f.out) 0 rfl
              have f1 := cell_of_box (bx_later HB.out B_f.out) 1 rfl
              have f2 := cell_of_box (bx_later HB.out B_f.out) 2 rfl
              have f3 := cell_of_box (bx_later HB.out B_f.out) 3 rfl
              have f4 := cell_of_box (bx_later HB.out B_f.out) 4 rfl
              have f5 := cell_of_box (bx_later HB.out B_f.out) 5 rfl
              have y0 := cell_of_box (bx_later HB.out B_y.out) 0 rfl
              have y1 := cell_of_box (bx_later HB.out B_y.out) 1 rfl
              have y2 := cell_of_box (bx_later HB.out B_y.out) 2 rfl
              go_wp2_with fail
              go_ret
              exact ⟨by first | rfl | exact ret_bool (by simp), below_then HB1.out HB.out⟩
          · have F4 := Lib.hid hu4
            clear hu4
            go_enter Try.func9, Try.ntmps9
            go_wp2_with fail
            rw [HW.out]
            go_wp2_with fail
            refine (few_p true F0.out (P1.out.later HB.out)).mono ?_
            rintro e wn ⟨rfl, hb⟩
            replace HB := Lib.hid (below_then HB.out (by first | exact hb | exact below_alloc_then hb | exact below_alloc_then (below_alloc_then hb)))
            clear hb c0 c1 c2 c3 c4 f0 f1 f2 f3 f4 f5 y0 y1 y2
            have c0 := cell_of_box (bx_later HB.out B_c.out) 0 rfl
            have c1 := cell_of_box (bx_later HB.out B_c.out) 1 rfl
            have c2 := cell_of_box (bx_later HB.out B_c.out) 2 rfl
            have c3 := cell_of_box (bx_later HB.out B_c.out) 3 rfl
            have c4 := cell_of_box (bx_later HB.out B_c.out) 4 rfl
            have f0 := cell_of_box (bx_later HB.out B_f.out) 0 rfl
            have f1 := cell_of_box (bx_later HB.out B_f.out) 1 rfl
            have f2 := cell_of_box (bx_later HB.out B_f.out) 2 rfl
            have f3 := cell_of_box (bx_later HB.out B_f.out) 3 rfl
            have f4 := cell_of_box (bx_later HB.out B_f.out) 4 rfl
            have f5 := cell_of_box (bx_later HB.out B_f.out) 5 rfl
            have y0 := cell_of_box (bx_later HB.out B_y.out) 0 rfl
            have y1 := cell_of_box (bx_later HB.out B_y.out) 1 rfl
            have y2 := cell_of_box (bx_later HB.out B_y.out) 2 rfl
            go_wp2_with fail
            refine (vecRight_b true F2.out (Z0.out.later HB.out)).mono ?_
            rintro e wn ⟨rfl, hb⟩
            replace HB := Lib.hid (below_then HB.out (by first | exact hb | exact below_alloc_then hb | exact below_alloc_then (below_alloc_then hb)))
            clear hb c0 c1 c2 c3 c4 f0 f1 f2 f3 f4 f5 y0 y1 y2
            have c0 := cell_of_box (bx_later HB.out B_c.out) 0 rfl
            have c1 := cell_of_box (bx_later HB.out B_c.out) 1 rfl
            have c2 := cell_of_box (bx_later HB.out B_c.out) 2 rfl
            have c3 := cell_of_box (bx_later HB.out B_c.out) 3 rfl
            have c4 := cell_of_box (bx_later HB.out B_c.out) 4 rfl
            have f0 := cell_of_box (bx_later HB.out B_f.out) 0 rfl
            have f1 := cell_of_box (bx_later HB.out B_f.out) 1 rfl
            have f2 := cell_of_box (bx_later HB.out B_f.out) 2 rfl
            have f3 := cell_of_box (bx_later HB.out B_f.out) 3 rfl
            have f4 := cell_of_box (bx_later HB.out B_f.out) 4 rfl
            have f5 := cell_of_box (bx_later HB.out B_f.out) 5 rfl
            have y0 := cell_of_box (bx_later HB.out B_y.out) 0 rfl
            have y1 := cell_of_box (bx_later HB.out B_y.out) 1 rfl
            have y2 := cell_of_box (bx_later HB.out B_y.out) 2 rfl
            go_wp2_with fail
            refine (right_b true F3.out (P1.out.later HB.out) (by omega)).mono ?_
            rintro e wn ⟨rfl, hb⟩
            replace HB := Lib.hid (below_then HB.out (by first | exact hb | exact below_alloc_then hb | exact below_alloc_then (below_alloc_then hb)))
            clear hb c0 c1 c2 c3 c4 f0 f1 f2 f3 f4 f5 y0 y1 y2
            have c0 := cell_of_box (bx_later HB.out B_c.out) 0 rfl
            have c1 := cell_of_box (bx_later HB.out B_c.out) 1 rfl
            have c2 := cell_of_box (bx_later HB.out B_c.out) 2 rfl
            have c3 := cell_of_box (bx_later HB.out B_c.out) 3 rfl
            have c4 := cell_of_box (bx_later HB.out B_c.out) 4 rfl
            have f0 := cell_of_box (bx_later HB.out B_f.out) 0 rfl
            have f1 := cell_of_box (bx_later HB.out B_f.out) 1 rfl
            have f2 := cell_of_box (bx_later HB.out B_f.out) 2 rfl
            have f3 := cell_of_box (bx_later HB.out B_f.out) 3 rfl
            have f4 := cell_of_box (bx_later HB.out B_f.out) 4 rfl
            have f5 := cell_of_box (bx_later HB.out B_f.out) 5 rfl
            have y0 := cell_of_box (bx_later HB.out B_y.out) 0 rfl
            have y1 := cell_of_box (bx_later HB.out B_y.out) 1 rfl
            have y2 := cell_of_box (bx_later HB.out B_y.out) 2 rfl
            go_wp2_with fail
            refine (refUpto_f F4.out (Z1.out.later HB.out) (Z0.out.later HB.out) (by omega) (by omega)).mono ?_
            rintro e wn ⟨rfl, hb⟩
            replace HB := Lib.hid (below_then HB.out (by first | exact hb | exact below_alloc_then hb | exact below_alloc_then (below_alloc_then hb)))
            clear hb c0 c1 c2 c3 c4 f0 f1 f2 f3 f4 f5 y0 y1 y2
            have c0 := cell_of_box (bx_later HB.out B_c.out) 0 rfl
            have c1 := cell_of_box (bx_later HB.out B_c.out) 1 rfl
            have c2 := cell_of_box (bx_later HB.out B_c.out) 2 rfl
            have c3 := cell_of_box (bx_later HB.out B_c.out) 3 rfl
            have c4 := cell_of_box (bx_later HB.out B_c.out) 4 rfl
            have f0 := cell_of_box (bx_later HB.out B_f.out) 0 rfl
            have f1 := cell_of_box (bx_later HB.out B_f.out) 1 rfl
            have f2 := cell_of_box (bx_later HB.out B_f.out) 2 rfl
            have f3 := cell_of_box (bx_later HB.out B_f.out) 3 rfl
            have f4 := cell_of_box (bx_later HB.out B_f.out) 4 rfl
            have f5 := cell_of_box (bx_later HB.out B_f.out) 5 rfl
            have y0 := cell_of_box (bx_later HB.out B_y.out) 0 rfl
            have y1 := cell_of_box (bx_later HB.out B_y.out) 1 rfl
            have y2 := cell_of_box (bx_later HB.out B_y.out) 2 rfl
            go_wp2_with fail
            refine (alive_any _).mono ?_
            rintro e wn ⟨rfl, hb⟩
            replace HB := Lib.hid (below_then HB.out (by first | exact hb | exact below_alloc_then hb | exact below_alloc_then (below_alloc_then hb)))
            clear hb c0 c1 c2 c3 c4 f0 f1 f2 f3 f4 f5 y0 y1 y2
            have c0 := cell_of_box (bx_later HB.out B_c.out) 0 rfl
            have c1 := cell_of_box (bx_later HB.out B_c.out) 1 rfl
            have c2 := cell_of_box (bx_later HB.out B_c.out) 2 rfl
            have c3 := cell_of_box (bx_later HB.out B_c.out) 3 rfl
            have c4 := cell_of_box (bx_later HB.out B_c.out) 4 rfl
            have f0 := cell_of_box (bx_later HB.out B_f.out) 0 rfl
            have f1 := cell_of_box (bx_later HB.out B_f.out) 1 rfl
            have f2 := cell_of_box (bx_later HB.out B_f.out) 2 rfl
            have f3 := cell_of_box (bx_later HB.out B_f.out) 3 rfl
            have f4 := cell_of_box (bx_later HB.out B_f.out) 4 rfl
            have f5 := cell_of_box (bx_later HB.out B_f.out) 5 rfl
            have y0 := cell_of_box (bx_later HB.out B_y.out) 0 rfl
            have y1 := cell_of_box (bx_later HB.out B_y.out) 1 rfl
            have y2 := cell_of_box (bx_later HB.out B_y.out) 2 rfl
            go_wp2_with fail
            go_ret
            exact ⟨by first | rfl | exact ret_bool (by simp), below_then HB1.out HB.out⟩

set_option maxRecDepth 100000 in
theorem lifted (os : Os) (started : os.Started) (H : Type) (enc : TypeId × Value → H) :
    ReturnsInHanded {} Try.checked os 9 .any (Rows.multiMeetsSpec.pre6 enc Try.prog Try.f9 Rows.multiMeetsRow.domain false) (Rows.multiMeetsSpec.post enc Try.prog Try.f9 false true false false) := by
  refine returnsInHanded_of_change_sized (C := Try.checked) ownKnob_none started (by kernel_rfl) Try.func9
    (ChangeSpec.witness6 (enc := enc) (C := Try.checked) false ⟨#[], #[.agg #[.int .i64 0, .int .i64 0, .int .i64 0, .string ⟨#[]⟩, .slice none 0 0], .agg #[.int .i64 0, .int .i64 0, .string ⟨#[]⟩, .int .i64 0, .int .i64 0, .string ⟨#[]⟩], .agg #[.slice none 0 0, .slice none 0 0, .slice none 0 0]], []⟩ 8 (by kernel_rfl) (by kernel_rfl) (by kernel_rfl) (by kernel_rfl)) ?_
  intro W base args ds gs before hval0 hW hcnd hsz0 _
  have hval : ∀ (j : Nat) t v, Try.f9.params[j]? = some t → args[j]? = some v → Value.okWide Try.prog W .any base t v := hval0
  have hW' := hW
  obtain ⟨p, q, hA0, hV, rfl, hfz, hnd⟩ := hW
  have hA : DataW.TrodAll enc Try.prog W 0 (fun _ => true) true Try.f9.params.toList args.toList ds p := hA0
  have hsz : (DataW.weightsEach Try.prog (Try.f9.params.toList ++ Rows.multiMeetsSpec.plain.varTypes Try.prog) (ds ++ gs)).all (· ≤ reachBytes) = true := hsz0
  rw [Try.params9] at hA hval hsz
  obtain ⟨v0, vs0, d0, ds0, p0, q0, hargs, rfl, rfl, h0, r0r⟩ := trodAll_cons hA
  obtain ⟨v1, vs1, d1, ds1, p1, q1, rfl, rfl, rfl, h1, r1r⟩ := trodAll_cons r0r
  obtain ⟨v2, vs2, d2, ds2, p2, q2, rfl, rfl, rfl, h2, r2r⟩ := trodAll_cons r1r
  obtain ⟨rfl, rfl, rfl⟩ := trodAll_nil r2r
  obtain rfl : args = #[v0, v1, v2] := by cases args; simp_all
  obtain ⟨rfl, rfl⟩ := trodVars_none hV
  have g0 := sized_at hsz (j := 0) rfl rfl
  have g1 := sized_at hsz (j := 1) rfl rfl
  have g2 := sized_at hsz (j := 2) rfl rfl
  obtain ⟨y0_0, y0_1, y0_2, y0_3, rfl, f0_0⟩ := open_cell (hval 0 26 v0 rfl rfl) h0
  obtain ⟨y1_0, y1_1, rfl⟩ := open_val2 (hval 1 50 v1 rfl rfl) h1
  obtain ⟨y2_0, y2_1, y2_2, y2_3, y2_4, y2_5, rfl, f2_0, f2_1, f2_2, f2_3, f2_4⟩ := open_vec3w (hval 2 51 v2 rfl rfl) h2 g2
  refine (walk y0_0 y0_1 y0_2 y0_3 y1_0 y1_1 y2_0 y2_1 y2_2 y2_3 y2_4 y2_5 W f0_0 f2_0 f2_1 f2_2 f2_3 f2_4).mono fun e W' ⟨he, hg⟩ => ⟨_, he, law_post laidOut (by kernel_rfl) rfl Try.underlying4 rfl rfl hW' hg⟩

theorem over : Rows.multiMeetsRow.holds Try.pinned (OpenSpec.ofChange Rows.multiMeetsSpec) :=
  OpenClaim.holds_of_wide 9 Try.f9 rfl rfl rfl rfl rfl rfl rfl ⟨rfl, rfl, rfl, rfl, rfl⟩ rfl rfl rfl rfl rfl (by kernel_rfl) Try.func9 (by kernel_rfl)
    (of_decide_eq_true (by kernel_rfl)) (by unfold Func.isWrapper; first | (rw [if_pos (by decide +kernel)]; kernel_rfl) | (rw [if_neg (by decide +kernel)]; exact ⟨rfl, rfl⟩))
    (fun os started H enc _ => lifted os started H enc)

/-- THE STATEMENT. -/
theorem proved : Rows.MultiMeetsSaid :=
  over
#print axioms proved
end Go.Proofs.Ytagbaejgjhmokaa.multiMeets
