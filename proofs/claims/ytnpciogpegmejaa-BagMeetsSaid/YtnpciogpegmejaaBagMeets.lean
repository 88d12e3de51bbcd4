/-
  The law BagMeets.
-/
import Derived.Test.YtnpciogpegmejaaGOp
namespace Go.Proofs.Ytnpciogpegmejaa.bagMeets
open Go.ChangeShapes Go.WideShapes Go.ChangeAt Go.RowKit Go.Sort Go.BigFrame Go.Proofs.Ytnpciogpegmejaa
open Go.ChangeMaps (open_string shut_string)

theorem vecRight_b {v : Value} {l : List Int} {w : World} (b : Bool) (hb : rightVec l = b) (h : Rd w v l.length (l.map ic)) :
    Calls Try.prog 24 #[v] w fun e w' => e = .returned (.bool b) ∧ Below w.heap.size w w' := by
  have := vecRight_any v l w h
  rw [hb] at this
  exact this.mono fun _ _ ⟨h1, h2⟩ => ⟨h1, h2 ▸ Below.refl _ _⟩
theorem refUpto_t {va vb : Value} {a b : List Int} {w : World} (hr : UptoV a b) (ha : Rd w va a.length (a.map ic)) (hb : Rd w vb b.length (b.map ic)) (hla : a.length ≤ 1000000000000000) (hlb : b.length ≤ 1000000000000000) :
    Calls Try.prog 25 #[va, vb] w fun e w' => e = .returned (.bool true) ∧ Below w.heap.size w w' :=
  (refUpto_any va vb a b w ha hb hla hlb).mono fun _ _ ⟨r', h1, h2, h3⟩ => ⟨by rw [h1, h2.2 hr], h3 ▸ Below.refl _ _⟩
theorem refUpto_f {va vb : Value} {a b : List Int} {w : World} (hr : ¬ UptoV a b) (ha : Rd w va a.length (a.map ic)) (hb : Rd w vb b.length (b.map ic)) (hla : a.length ≤ 1000000000000000) (hlb : b.length ≤ 1000000000000000) :
    Calls Try.prog 25 #[va, vb] w fun e w' => e = .returned (.bool false) ∧ Below w.heap.size w w' :=
  (refUpto_any va vb a b w ha hb hla hlb).mono fun _ _ ⟨r', h1, h2, h3⟩ => ⟨by rw [h1, not_true'.2 fun h => hr (h2.1 h)], h3 ▸ Below.refl _ _⟩
theorem ofV_right {l : List Int} (h : rightVec l = true) (d : Int) : 0 ≤ ofV l d ∧ ofV l d ≤ 1048576 := by
  unfold rightVec at h
  simp only [Bool.and_eq_true, Bool.not_eq_true', List.any_eq_false] at h
  unfold ofV
  split
  · omega
  · rename_i hd
    have hlt : (d - 1).toNat < l.length := by omega
    have hm := h.2 _ (List.getElem_mem hlt)
    rw [List.getD_eq_getElem?_getD, List.getElem?_eq_getElem hlt]
    simp only [Option.getD_some]
    unfold badI at hm
    simp only [Bool.or_eq_true, decide_eq_true_eq, not_or] at hm
    omega
theorem has_iff {v : List Int} {u : Dt} : hasV v u = true ↔ 1 ≤ u.seq ∧ u.seq ≤ ofV v u.dev := by unfold hasV; simp
theorem meet_set {k0 : List Int} (hv : rightVec k0 = true) {dev : Int} (h1 : 1 ≤ dev) (u : Dt) : hasV (setL k0 dev (ofV k0 dev + 1)) u = true ↔ u = ⟨dev, ofV k0 dev + 1⟩ ∨ hasV k0 u = true := by
  rw [has_iff, has_iff, ofV_setL _ _ h1]
  have hb := ofV_right hv dev
  obtain ⟨a, q⟩ := u
  simp only [Dt.mk.injEq]
  by_cases he : a = dev
  · subst he
    rw [if_pos rfl]
    omega
  · rw [if_neg he]
    constructor
    · exact fun h => .inr h
    · rintro (⟨h, _⟩ | h)
      · exact absurd h he
      · exact h
/-- What the meeting of two copies is asked. -/
structure MeetQ (c : List Prt) (k0 k1 x y : List Int) (d e : Dt) : Prop where
  rise : RiseQ c
  known : ∀ p ∈ c, hasV k0 p.d = true
  le1 : ∀ u, hasV k1 u = true → hasV k0 u = true
  ne : d ≠ e
  nd : hasV k0 d = false
  ne' : hasV k0 e = false
  hx : ∀ u, hasV x u = true ↔ u = d ∨ hasV k0 u = true
  hy : ∀ u, hasV y u = true ↔ u = e ∨ hasV k0 u = true
theorem meetQ_of {c : List Prt} {k0 k1 : List Int} (hr : RiseQ c) (hv : rightVec k0 = true) (hk : ∀ p ∈ c, hasV k0 p.d = true) (h1 : UptoV k1 k0) :
    MeetQ c k0 k1 (setL k0 1 (ofV k0 1 + 1)) (setL k0 2 (ofV k0 2 + 1)) ⟨1, ofV k0 1 + 1⟩ ⟨2, ofV k0 2 + 1⟩ where
  rise := hr
  known := hk
  le1 u h := by rw [has_iff] at h ⊢; have := h1 u.dev; omega
  ne h := by have := congrArg Dt.dev h; cases this
  nd := not_true'.2 fun h => by rw [has_iff] at h; have h' : ofV k0 1 + 1 ≤ ofV k0 1 := h.2; omega
  ne' := not_true'.2 fun h => by rw [has_iff] at h; have h' : ofV k0 2 + 1 ≤ ofV k0 2 := h.2; omega
  hx u := meet_set hv (by decide) u
  hy u := meet_set hv (by decide) u
section
variable {c : List Prt} {k0 k1 x y : List Int} {d e : Dt} (M : MeetQ c k0 k1 x y d e) (n m : Int)
include M
theorem MeetQ.noIn : inQ c (numP n d) = false := not_true'.2 fun h => by
  obtain ⟨q, hq, _, h2⟩ := inQ_iff.1 h
  have := M.known q hq
  rw [h2, show (numP n d).d = d from rfl, M.nd] at this
  cases this
theorem MeetQ.stay : stayQ m e k1 (numP n d) = true := stay_put M.ne (.inr (not_true'.2 fun h => by have := M.le1 _ h; rw [M.nd] at this; cases this))
theorem MeetQ.mem_a {p : Prt} : p ∈ addQ c n d ↔ p = numP n d ∨ p ∈ c := by
  rw [mem_addQ, M.noIn n]
  simp
theorem MeetQ.mem_all {p : Prt} : p ∈ takeQ (addQ c n d) m e k1 ↔ p = numP n d ∨ p ∈ takeQ c m e k1 := by
  unfold takeQ
  rw [List.mem_filter, List.mem_filter, M.mem_a]
  constructor
  · rintro ⟨h | h, hs⟩
    · exact .inl h
    · exact .inr ⟨h, hs⟩
  · rintro (rfl | ⟨h, hs⟩)
    · exact ⟨.inl rfl, M.stay n m⟩
    · exact ⟨.inr h, hs⟩
omit M in
theorem in_bQ {p : Prt} (hp : p ∈ c) : inQ (takeQ c m e k1) p = true ↔ p ∈ takeQ c m e k1 := by
  constructor
  · intro h
    obtain ⟨q, hq, hqp⟩ := inQ_iff.1 h
    have hs := (List.mem_filter.1 hq).2
    rw [stay_congr (eqQ_iff.2 hqp)] at hs
    exact List.mem_filter.2 ⟨hp, hs⟩
  · exact inQ_mem
theorem MeetQ.yk {p : Prt} (hp : p ∈ c) : hasV y p.d = true := (M.hy _).2 (.inr (M.known p hp))
theorem MeetQ.yd : hasV y d = false := not_true'.2 fun h => by
  rcases (M.hy _).1 h with h | h
  · exact M.ne h
  · rw [M.nd] at h; cases h
theorem MeetQ.noB : inQ (takeQ c m e k1) (numP n d) = false := not_true'.2 fun h => by
  obtain ⟨q, hq, h2⟩ := inQ_iff.1 h
  have : inQ c (numP n d) = true := inQ_iff.2 ⟨q, (List.mem_filter.1 hq).1, h2⟩
  rw [M.noIn n] at this
  cases this
theorem MeetQ.all : joinQ (addQ c n d) (takeQ c m e k1) x y = takeQ (addQ c n d) m e k1 := by
  refine riseQ_unique (joinQ_rise (addQ_rise M.rise _ _) (takeQ_rise M.rise _ _ _) _ _) (takeQ_rise (addQ_rise M.rise _ _) _ _ _) fun p => ?_
  rw [mem_joinQ, M.mem_all, M.mem_a]
  constructor
  · rintro (⟨h | h, h2⟩ | ⟨h, h2, _⟩)
    · exact .inl h
    · rcases h2 with h2 | h2
      · exact .inr ((in_bQ m h).1 h2)
      · rw [M.yk h] at h2; cases h2
    · have : inQ (addQ c n d) p = true := inQ_mem ((M.mem_a n).2 (.inr (List.mem_filter.1 h).1))
      rw [this] at h2; cases h2
  · rintro (rfl | h)
    · exact .inl ⟨.inl rfl, .inr M.yd⟩
    · exact .inl ⟨.inr (List.mem_filter.1 h).1, .inl (inQ_mem h)⟩
theorem MeetQ.all' : joinQ (takeQ c m e k1) (addQ c n d) y x = takeQ (addQ c n d) m e k1 := by
  refine riseQ_unique (joinQ_rise (takeQ_rise M.rise _ _ _) (addQ_rise M.rise _ _) _ _) (takeQ_rise (addQ_rise M.rise _ _) _ _ _) fun p => ?_
  rw [mem_joinQ, M.mem_all, M.mem_a]
  constructor
  · rintro (⟨h, _⟩ | ⟨h | h, _, h3⟩)
    · exact .inr h
    · exact .inl h
    · rw [M.yk h] at h3; cases h3
  · rintro (rfl | h)
    · exact .inr ⟨.inl rfl, M.noB n m, M.yd⟩
    · exact .inl ⟨h, .inl (inQ_mem ((M.mem_a n).2 (.inr (List.mem_filter.1 h).1)))⟩
end

set_option maxRecDepth 100000 in
set_option maxHeartbeats 16000000 in
theorem walk (kd : Int) (cv : Val) (va : Value) (l : List Prt) (n0 n1 : Int) (vz0 vz1 : Value) (z0 z1 : List Int) (w : World) (ha : PRd w va l) (hz0 : Rd w vz0 z0.length (z0.map ic)) (hz1 : Rd w vz1 z1.length (z1.map ic)) :
    Calls Try.prog 8 #[.agg #[.int .i64 kd, .int .i64 cv.k, .int .i64 cv.n, .string cv.s, va], .agg #[.int .i64 n0, .int .i64 n1], .agg #[vz0, vz1]] w fun e w' => e = .returned (.bool true) ∧ Below w.heap.size w w' := by
  obtain ⟨ck, cn, cs⟩ := cv
  obtain ⟨ao, ca, rfl, -, hcm, -, -⟩ := id ha
  unfold maxLen at hcm
  obtain ⟨zo0, zc0, rfl, -, hzm0, -, -⟩ := id hz0
  unfold maxLen at hzm0
  obtain ⟨zo1, zc1, rfl, -, hzm1, -, -⟩ := id hz1
  unfold maxLen at hzm1
  obtain ⟨w1, hw1⟩ : ∃ w1, ((w.alloc (.cells #[(.int .i64 kd), (.int .i64 ck), (.int .i64 cn), (.string cs), (.slice ao l.length ca)] 26)).alloc (.cells #[(.int .i64 n0), (.int .i64 n1)] 35)).alloc (.cells #[(.slice zo0 z0.length zc0), (.slice zo1 z1.length zc1)] 29) = w1 := ⟨_, rfl⟩
  have hb1 : Below w.heap.size w w1 := by rw [← hw1]; exact below_alloc_then (below_alloc_then (below_alloc _ _))
  have b_c : Bx w1 (w.heap.size) #[(.int .i64 kd), (.int .i64 ck), (.int .i64 cn), (.string cs), (.slice ao l.length ca)] 26 := by rw [← hw1]; exact bx_later (below_alloc_then (below_alloc _ _)) (bx_new (by simp))
  have b_zz : Bx w1 (w.heap.size + 1) #[(.int .i64 n0), (.int .i64 n1)] 35 := by rw [← hw1]; exact bx_later (below_alloc _ _) (bx_new (by simp))
  have b_y : Bx w1 (w.heap.size + 2) #[(.slice zo0 z0.length zc0), (.slice zo1 z1.length zc1)] 29 := by rw [← hw1]; exact bx_new (by simp)
  have HW := Lib.hid hw1
  have HB1 := Lib.hid hb1
  have HB := Lib.hid (Below.refl w1.heap.size w1)
  have B_c := Lib.hid b_c
  have B_zz := Lib.hid b_zz
  have B_y := Lib.hid b_y
  have c0 := cell_of_box (bx_later HB.out B_c.out) 0 rfl
  have c1 := cell_of_box (bx_later HB.out B_c.out) 1 rfl
  have c2 := cell_of_box (bx_later HB.out B_c.out) 2 rfl
  have c3 := cell_of_box (bx_later HB.out B_c.out) 3 rfl
  have c4 := cell_of_box (bx_later HB.out B_c.out) 4 rfl
  have zz0 := cell_of_box (bx_later HB.out B_zz.out) 0 rfl
  have zz1 := cell_of_box (bx_later HB.out B_zz.out) 1 rfl
  have y0 := cell_of_box (bx_later HB.out B_y.out) 0 rfl
  have y1 := cell_of_box (bx_later HB.out B_y.out) 1 rfl
  clear hw1 hb1 b_c b_zz b_y
  have P := Lib.hid (ha.later HB1.out)
  have Z0 := Lib.hid (hz0.later HB1.out)
  have Z1 := Lib.hid (hz1.later HB1.out)
  clear ha hz0 hz1
  cases hf0 : decide ((l.length : Int) ≤ 60)
  all_goals
    have F0 := Lib.hid hf0
  · clear hf0
    go_enter Try.func8, Try.ntmps8
    go_wp2_with fail
    rw [HW.out]
    go_wp2_with fail
    refine (few_b false F0.out (P.out.later HB.out)).mono ?_
    rintro e wn ⟨rfl, hb⟩
    replace HB := Lib.hid (below_then HB.out (by first | exact hb | exact below_alloc_then hb | exact below_alloc_then (below_alloc_then hb)))
    clear hb c0 c1 c2 c3 c4 zz0 zz1 y0 y1
    have c0 := cell_of_box (bx_later HB.out B_c.out) 0 rfl
    have c1 := cell_of_box (bx_later HB.out B_c.out) 1 rfl
    have c2 := cell_of_box (bx_later HB.out B_c.out) 2 rfl
    have c3 := cell_of_box (bx_later HB.out B_c.out) 3 rfl
    have c4 := cell_of_box (bx_later HB.out B_c.out) 4 rfl
    have zz0 := cell_of_box (bx_later HB.out B_zz.out) 0 rfl
    have zz1 := cell_of_box (bx_later HB.out B_zz.out) 1 rfl
    have y0 := cell_of_box (bx_later HB.out B_y.out) 0 rfl
    have y1 := cell_of_box (bx_later HB.out B_y.out) 1 rfl
    go_wp2_with fail
    refine (alive_any _).mono ?_
    rintro e wn ⟨rfl, hb⟩
    replace HB := Lib.hid (below_then HB.out (by first | exact hb | exact below_alloc_then hb | exact below_alloc_then (below_alloc_then hb)))
    clear hb c0 c1 c2 c3 c4 zz0 zz1 y0 y1
    have c0 := cell_of_box (bx_later HB.out B_c.out) 0 rfl
    have c1 := cell_of_box (bx_later HB.out B_c.out) 1 rfl
    have c2 := cell_of_box (bx_later HB.out B_c.out) 2 rfl
    have c3 := cell_of_box (bx_later HB.out B_c.out) 3 rfl
    have c4 := cell_of_box (bx_later HB.out B_c.out) 4 rfl
    have zz0 := cell_of_box (bx_later HB.out B_zz.out) 0 rfl
    have zz1 := cell_of_box (bx_later HB.out B_zz.out) 1 rfl
    have y0 := cell_of_box (bx_later HB.out B_y.out) 0 rfl
    have y1 := cell_of_box (bx_later HB.out B_y.out) 1 rfl
    go_wp2_with fail
    go_ret
    exact ⟨by first | rfl | exact ret_bool (by simp), below_then HB1.out HB.out⟩
  · have hl0 : l.length ≤ 60 := by have := of_decide_eq_true hf0; omega
    clear hf0
    by_cases hlen1 : 60 < z0.length
    · have g1z0 : decide (60 < (z0.length : Int)) = true := decide_eq_true (by omega)
      have g2z0 : decide (60 < z0.length) = true := decide_eq_true (by omega)
      go_enter Try.func8, Try.ntmps8
      go_wp2_with fail
      rw [HW.out]
      go_wp2_with fail
      refine (few_b true F0.out (P.out.later HB.out)).mono ?_
      rintro e wn ⟨rfl, hb⟩
      replace HB := Lib.hid (below_then HB.out (by first | exact hb | exact below_alloc_then hb | exact below_alloc_then (below_alloc_then hb)))
      clear hb c0 c1 c2 c3 c4 zz0 zz1 y0 y1
      have c0 := cell_of_box (bx_later HB.out B_c.out) 0 rfl
      have c1 := cell_of_box (bx_later HB.out B_c.out) 1 rfl
      have c2 := cell_of_box (bx_later HB.out B_c.out) 2 rfl
      have c3 := cell_of_box (bx_later HB.out B_c.out) 3 rfl
      have c4 := cell_of_box (bx_later HB.out B_c.out) 4 rfl
      have zz0 := cell_of_box (bx_later HB.out B_zz.out) 0 rfl
      have zz1 := cell_of_box (bx_later HB.out B_zz.out) 1 rfl
      have y0 := cell_of_box (bx_later HB.out B_y.out) 0 rfl
      have y1 := cell_of_box (bx_later HB.out B_y.out) 1 rfl
      go_wp2_with fail
      refine (alive_any _).mono ?_
      rintro e wn ⟨rfl, hb⟩
      replace HB := Lib.hid (below_then HB.out (by first | exact hb | exact below_alloc_then hb | exact below_alloc_then (below_alloc_then hb)))
      clear hb c0 c1 c2 c3 c4 zz0 zz1 y0 y1
      have c0 := cell_of_box (bx_later HB.out B_c.out) 0 rfl
      have c1 := cell_of_box (bx_later HB.out B_c.out) 1 rfl
      have c2 := cell_of_box (bx_later HB.out B_c.out) 2 rfl
      have c3 := cell_of_box (bx_later HB.out B_c.out) 3 rfl
      have c4 := cell_of_box (bx_later HB.out B_c.out) 4 rfl
      have zz0 := cell_of_box (bx_later HB.out B_zz.out) 0 rfl
      have zz1 := cell_of_box (bx_later HB.out B_zz.out) 1 rfl
      have y0 := cell_of_box (bx_later HB.out B_y.out) 0 rfl
      have y1 := cell_of_box (bx_later HB.out B_y.out) 1 rfl
      go_wp2_with fail
      go_ret
      exact ⟨by first | rfl | exact ret_bool (by simp), below_then HB1.out HB.out⟩
    · have g1z0 : decide (60 < (z0.length : Int)) = false := decide_eq_false (by omega)
      have g2z0 : decide (60 < z0.length) = false := decide_eq_false (by omega)
      by_cases hlen2 : 100 < z1.length
      · have g1z1 : decide (100 < (z1.length : Int)) = true := decide_eq_true (by omega)
        have g2z1 : decide (100 < z1.length) = true := decide_eq_true (by omega)
        go_enter Try.func8, Try.ntmps8
        go_wp2_with fail
        rw [HW.out]
        go_wp2_with fail
        refine (few_b true F0.out (P.out.later HB.out)).mono ?_
        rintro e wn ⟨rfl, hb⟩
        replace HB := Lib.hid (below_then HB.out (by first | exact hb | exact below_alloc_then hb | exact below_alloc_then (below_alloc_then hb)))
        clear hb c0 c1 c2 c3 c4 zz0 zz1 y0 y1
        have c0 := cell_of_box (bx_later HB.out B_c.out) 0 rfl
        have c1 := cell_of_box (bx_later HB.out B_c.out) 1 rfl
        have c2 := cell_of_box (bx_later HB.out B_c.out) 2 rfl
        have c3 := cell_of_box (bx_later HB.out B_c.out) 3 rfl
        have c4 := cell_of_box (bx_later HB.out B_c.out) 4 rfl
        have zz0 := cell_of_box (bx_later HB.out B_zz.out) 0 rfl
        have zz1 := cell_of_box (bx_later HB.out B_zz.out) 1 rfl
        have y0 := cell_of_box (bx_later HB.out B_y.out) 0 rfl
        have y1 := cell_of_box (bx_later HB.out B_y.out) 1 rfl
        go_wp2_with fail
        refine (alive_any _).mono ?_
        rintro e wn ⟨rfl, hb⟩
        replace HB := Lib.hid (below_then HB.out (by first | exact hb | exact below_alloc_then hb | exact below_alloc_then (below_alloc_then hb)))
        clear hb c0 c1 c2 c3 c4 zz0 zz1 y0 y1
        have c0 := cell_of_box (bx_later HB.out B_c.out) 0 rfl
        have c1 := cell_of_box (bx_later HB.out B_c.out) 1 rfl
        have c2 := cell_of_box (bx_later HB.out B_c.out) 2 rfl
        have c3 := cell_of_box (bx_later HB.out B_c.out) 3 rfl
        have c4 := cell_of_box (bx_later HB.out B_c.out) 4 rfl
        have zz0 := cell_of_box (bx_later HB.out B_zz.out) 0 rfl
        have zz1 := cell_of_box (bx_later HB.out B_zz.out) 1 rfl
        have y0 := cell_of_box (bx_later HB.out B_y.out) 0 rfl
        have y1 := cell_of_box (bx_later HB.out B_y.out) 1 rfl
        go_wp2_with fail
        go_ret
        exact ⟨by first | rfl | exact ret_bool (by simp), below_then HB1.out HB.out⟩
      · have g1z1 : decide (100 < (z1.length : Int)) = false := decide_eq_false (by omega)
        have g2z1 : decide (100 < z1.length) = false := decide_eq_false (by omega)
        cases hr3 : rightVec z0
        all_goals
          have F3 := Lib.hid hr3
          clear hr3
        · go_enter Try.func8, Try.ntmps8
          go_wp2_with fail
          rw [HW.out]
          go_wp2_with fail
          refine (few_b true F0.out (P.out.later HB.out)).mono ?_
          rintro e wn ⟨rfl, hb⟩
          replace HB := Lib.hid (below_then HB.out (by first | exact hb | exact below_alloc_then hb | exact below_alloc_then (below_alloc_then hb)))
          clear hb c0 c1 c2 c3 c4 zz0 zz1 y0 y1
          have c0 := cell_of_box (bx_later HB.out B_c.out) 0 rfl
          have c1 := cell_of_box (bx_later HB.out B_c.out) 1 rfl
          have c2 := cell_of_box (bx_later HB.out B_c.out) 2 rfl
          have c3 := cell_of_box (bx_later HB.out B_c.out) 3 rfl
          have c4 := cell_of_box (bx_later HB.out B_c.out) 4 rfl
          have zz0 := cell_of_box (bx_later HB.out B_zz.out) 0 rfl
          have zz1 := cell_of_box (bx_later HB.out B_zz.out) 1 rfl
          have y0 := cell_of_box (bx_later HB.out B_y.out) 0 rfl
          have y1 := cell_of_box (bx_later HB.out B_y.out) 1 rfl
          go_wp2_with fail
          refine (vecRight_b false F3.out (Z0.out.later HB.out)).mono ?_
          rintro e wn ⟨rfl, hb⟩
          replace HB := Lib.hid (below_then HB.out (by first | exact hb | exact below_alloc_then hb | exact below_alloc_then (below_alloc_then hb)))
          clear hb c0 c1 c2 c3 c4 zz0 zz1 y0 y1
          have c0 := cell_of_box (bx_later HB.out B_c.out) 0 rfl
          have c1 := cell_of_box (bx_later HB.out B_c.out) 1 rfl
          have c2 := cell_of_box (bx_later HB.out B_c.out) 2 rfl
          have c3 := cell_of_box (bx_later HB.out B_c.out) 3 rfl
          have c4 := cell_of_box (bx_later HB.out B_c.out) 4 rfl
          have zz0 := cell_of_box (bx_later HB.out B_zz.out) 0 rfl
          have zz1 := cell_of_box (bx_later HB.out B_zz.out) 1 rfl
          have y0 := cell_of_box (bx_later HB.out B_y.out) 0 rfl
          have y1 := cell_of_box (bx_later HB.out B_y.out) 1 rfl
          go_wp2_with fail
          refine (alive_any _).mono ?_
          rintro e wn ⟨rfl, hb⟩
          replace HB := Lib.hid (below_then HB.out (by first | exact hb | exact below_alloc_then hb | exact below_alloc_then (below_alloc_then hb)))
          clear hb c0 c1 c2 c3 c4 zz0 zz1 y0 y1
          have c0 := cell_of_box (bx_later HB.out B_c.out) 0 rfl
          have c1 := cell_of_box (bx_later HB.out B_c.out) 1 rfl
          have c2 := cell_of_box (bx_later HB.out B_c.out) 2 rfl
          have c3 := cell_of_box (bx_later HB.out B_c.out) 3 rfl
          have c4 := cell_of_box (bx_later HB.out B_c.out) 4 rfl
          have zz0 := cell_of_box (bx_later HB.out B_zz.out) 0 rfl
          have zz1 := cell_of_box (bx_later HB.out B_zz.out) 1 rfl
          have y0 := cell_of_box (bx_later HB.out B_y.out) 0 rfl
          have y1 := cell_of_box (bx_later HB.out B_y.out) 1 rfl
          go_wp2_with fail
          go_ret
          exact ⟨by first | rfl | exact ret_bool (by simp), below_then HB1.out HB.out⟩
        · cases hr4 : rcQ kd ⟨ck, cn, cs⟩ l
          all_goals
            have F4 := Lib.hid hr4
            clear hr4
          · go_enter Try.func8, Try.ntmps8
            go_wp2_with fail
            rw [HW.out]
            go_wp2_with fail
            refine (few_b true F0.out (P.out.later HB.out)).mono ?_
            rintro e wn ⟨rfl, hb⟩
            replace HB := Lib.hid (below_then HB.out (by first | exact hb | exact below_alloc_then hb | exact below_alloc_then (below_alloc_then hb)))
            clear hb c0 c1 c2 c3 c4 zz0 zz1 y0 y1
            have c0 := cell_of_box (bx_later HB.out B_c.out) 0 rfl
            have c1 := cell_of_box (bx_later HB.out B_c.out) 1 rfl
            have c2 := cell_of_box (bx_later HB.out B_c.out) 2 rfl
            have c3 := cell_of_box (bx_later HB.out B_c.out) 3 rfl
            have c4 := cell_of_box (bx_later HB.out B_c.out) 4 rfl
            have zz0 := cell_of_box (bx_later HB.out B_zz.out) 0 rfl
            have zz1 := cell_of_box (bx_later HB.out B_zz.out) 1 rfl
            have y0 := cell_of_box (bx_later HB.out B_y.out) 0 rfl
            have y1 := cell_of_box (bx_later HB.out B_y.out) 1 rfl
            go_wp2_with fail
            refine (vecRight_b true F3.out (Z0.out.later HB.out)).mono ?_
            rintro e wn ⟨rfl, hb⟩
            replace HB := Lib.hid (below_then HB.out (by first | exact hb | exact below_alloc_then hb | exact below_alloc_then (below_alloc_then hb)))
            clear hb c0 c1 c2 c3 c4 zz0 zz1 y0 y1
            have c0 := cell_of_box (bx_later HB.out B_c.out) 0 rfl
            have c1 := cell_of_box (bx_later HB.out B_c.out) 1 rfl
            have c2 := cell_of_box (bx_later HB.out B_c.out) 2 rfl
            have c3 := cell_of_box (bx_later HB.out B_c.out) 3 rfl
            have c4 := cell_of_box (bx_later HB.out B_c.out) 4 rfl
            have zz0 := cell_of_box (bx_later HB.out B_zz.out) 0 rfl
            have zz1 := cell_of_box (bx_later HB.out B_zz.out) 1 rfl
            have y0 := cell_of_box (bx_later HB.out B_y.out) 0 rfl
            have y1 := cell_of_box (bx_later HB.out B_y.out) 1 rfl
            go_wp2_with fail
            refine (right_b false F4.out (P.out.later HB.out) (by omega)).mono ?_
            rintro e wn ⟨rfl, hb⟩
            replace HB := Lib.hid (below_then HB.out (by first | exact hb | exact below_alloc_then hb | exact below_alloc_then (below_alloc_then hb)))
            clear hb c0 c1 c2 c3 c4 zz0 zz1 y0 y1
            have c0 := cell_of_box (bx_later HB.out B_c.out) 0 rfl
            have c1 := cell_of_box (bx_later HB.out B_c.out) 1 rfl
            have c2 := cell_of_box (bx_later HB.out B_c.out) 2 rfl
            have c3 := cell_of_box (bx_later HB.out B_c.out) 3 rfl
            have c4 := cell_of_box (bx_later HB.out B_c.out) 4 rfl
            have zz0 := cell_of_box (bx_later HB.out B_zz.out) 0 rfl
            have zz1 := cell_of_box (bx_later HB.out B_zz.out) 1 rfl
            have y0 := cell_of_box (bx_later HB.out B_y.out) 0 rfl
            have y1 := cell_of_box (bx_later HB.out B_y.out) 1 rfl
            go_wp2_with fail
            refine (alive_any _).mono ?_
            rintro e wn ⟨rfl, hb⟩
            replace HB := Lib.hid (below_then HB.out (by first | exact hb | exact below_alloc_then hb | exact below_alloc_then (below_alloc_then hb)))
            clear hb c0 c1 c2 c3 c4 zz0 zz1 y0 y1
            have c0 := cell_of_box (bx_later HB.out B_c.out) 0 rfl
            have c1 := cell_of_box (bx_later HB.out B_c.out) 1 rfl
            have c2 := cell_of_box (bx_later HB.out B_c.out) 2 rfl
            have c3 := cell_of_box (bx_later HB.out B_c.out) 3 rfl
            have c4 := cell_of_box (bx_later HB.out B_c.out) 4 rfl
            have zz0 := cell_of_box (bx_later HB.out B_zz.out) 0 rfl
            have zz1 := cell_of_box (bx_later HB.out B_zz.out) 1 rfl
            have y0 := cell_of_box (bx_later HB.out B_y.out) 0 rfl
            have y1 := cell_of_box (bx_later HB.out B_y.out) 1 rfl
            go_wp2_with fail
            go_ret
            exact ⟨by first | rfl | exact ret_bool (by simp), below_then HB1.out HB.out⟩
          · by_cases hu5 : ¬ UptoV z1 z0
            · have F5 := Lib.hid hu5
              clear hu5
              go_enter Try.func8, Try.ntmps8
              go_wp2_with fail
              rw [HW.out]
              go_wp2_with fail
              refine (few_b true F0.out (P.out.later HB.out)).mono ?_
              rintro e wn ⟨rfl, hb⟩
              replace HB := Lib.hid (below_then HB.out (by first | exact hb | exact below_alloc_then hb | exact below_alloc_then (below_alloc_then hb)))
              clear hb c0 c1 c2 c3 c4 zz0 zz1 y0 y1
              have c0 := cell_of_box (bx_later HB.out B_c.out) 0 rfl
              have c1 := cell_of_box (bx_later HB.out B_c.out) 1 rfl
              have c2 := cell_of_box (bx_later HB.out B_c.out) 2 rfl
              have c3 := cell_of_box (bx_later HB.out B_c.out) 3 rfl
              have c4 := cell_of_box (bx_later HB.out B_c.out) 4 rfl
              have zz0 := cell_of_box (bx_later HB.out B_zz.out) 0 rfl
              have zz1 := cell_of_box (bx_later HB.out B_zz.out) 1 rfl
              have y0 := cell_of_box (bx_later HB.out B_y.out) 0 rfl
              have y1 := cell_of_box (bx_later HB.out B_y.out) 1 rfl
              go_wp2_with fail
              refine (vecRight_b true F3.out (Z0.out.later HB.out)).mono ?_
              rintro e wn ⟨rfl, hb⟩
              replace HB := Lib.hid (below_then HB.out (by first | exact hb | exact below_alloc_then hb | exact below_alloc_then (below_alloc_then hb)))
              clear hb c0 c1 c2 c3 c4 zz0 zz1 y0 y1
              have c0 := cell_of_box (bx_later HB.out B_c.out) 0 rfl
              have c1 := cell_of_box (bx_later HB.out B_c.out) 1 rfl
              have c2 := cell_of_box (bx_later HB.out B_c.out) 2 rfl
              have c3 := cell_of_box (bx_later HB.out B_c.out) 3 rfl
              have c4 := cell_of_box (bx_later HB.out B_c.out) 4 rfl
              have zz0 := cell_of_box (bx_later HB.out B_zz.out) 0 rfl
              have zz1 := cell_of_box (bx_later HB.out B_zz.out) 1 rfl
              have y0 := cell_of_box (bx_later HB.out B_y.out) 0 rfl
              have y1 := cell_of_box (bx_later HB.out B_y.out) 1 rfl
              go_wp2_with fail
              refine (right_b true F4.out (P.out.later HB.out) (by omega)).mono ?_
              rintro e wn ⟨rfl, hb⟩
              replace HB := Lib.hid (below_then HB.out (by first | exact hb | exact below_alloc_then hb | exact below_alloc_then (below_alloc_then hb)))
              clear hb c0 c1 c2 c3 c4 zz0 zz1 y0 y1
              have c0 := cell_of_box (bx_later HB.out B_c.out) 0 rfl
              have c1 := cell_of_box (bx_later HB.out B_c.out) 1 rfl
              have c2 := cell_of_box (bx_later HB.out B_c.out) 2 rfl
              have c3 := cell_of_box (bx_later HB.out B_c.out) 3 rfl
              have c4 := cell_of_box (bx_later HB.out B_c.out) 4 rfl
              have zz0 := cell_of_box (bx_later HB.out B_zz.out) 0 rfl
              have zz1 := cell_of_box (bx_later HB.out B_zz.out) 1 rfl
              have y0 := cell_of_box (bx_later HB.out B_y.out) 0 rfl
              have y1 := cell_of_box (bx_later HB.out B_y.out) 1 rfl
              go_wp2_with fail
              refine (refUpto_f F5.out (Z1.out.later HB.out) (Z0.out.later HB.out) (by omega) (by omega)).mono ?_
              rintro e wn ⟨rfl, hb⟩
              replace HB := Lib.hid (below_then HB.out (by first | exact hb | exact below_alloc_then hb | exact below_alloc_then (below_alloc_then hb)))
              clear hb c0 c1 c2 c3 c4 zz0 zz1 y0 y1
              have c0 := cell_of_box (bx_later HB.out B_c.out) 0 rfl
              have c1 := cell_of_box (bx_later HB.out B_c.out) 1 rfl
              have c2 := cell_of_box (bx_later HB.out B_c.out) 2 rfl
              have c3 := cell_of_box (bx_later HB.out B_c.out) 3 rfl
              have c4 := cell_of_box (bx_later HB.out B_c.out) 4 rfl
              have zz0 := cell_of_box (bx_later HB.out B_zz.out) 0 rfl
              have zz1 := cell_of_box (bx_later HB.out B_zz.out) 1 rfl
              have y0 := cell_of_box (bx_later HB.out B_y.out) 0 rfl
              have y1 := cell_of_box (bx_later HB.out B_y.out) 1 rfl
              go_wp2_with fail
              refine (alive_any _).mono ?_
              rintro e wn ⟨rfl, hb⟩
              replace HB := Lib.hid (below_then HB.out (by first | exact hb | exact below_alloc_then hb | exact below_alloc_then (below_alloc_then hb)))
              clear hb c0 c1 c2 c3 c4 zz0 zz1 y0 y1
              have c0 := cell_of_box (bx_later HB.out B_c.out) 0 rfl
              have c1 := cell_of_box (bx_later HB.out B_c.out) 1 rfl
              have c2 := cell_of_box (bx_later HB.out B_c.out) 2 rfl
              have c3 := cell_of_box (bx_later HB.out B_c.out) 3 rfl
              have c4 := cell_of_box (bx_later HB.out B_c.out) 4 rfl
              have zz0 := cell_of_box (bx_later HB.out B_zz.out) 0 rfl
              have zz1 := cell_of_box (bx_later HB.out B_zz.out) 1 rfl
              have y0 := cell_of_box (bx_later HB.out B_y.out) 0 rfl
              have y1 := cell_of_box (bx_later HB.out B_y.out) 1 rfl
              go_wp2_with fail
              go_ret
              exact ⟨by first | rfl | exact ret_bool (by simp), below_then HB1.out HB.out⟩
            · have F5 := Lib.hid (Classical.not_not.1 hu5)
              clear hu5
              go_enter Try.func8, Try.ntmps8
              go_wp2_with fail
              rw [HW.out]
              go_wp2_with fail
              refine (few_b true F0.out (P.out.later HB.out)).mono ?_
              rintro e wn ⟨rfl, hb⟩
              replace HB := Lib.hid (below_then HB.out (by first | exact hb | exact below_alloc_then hb | exact below_alloc_then (below_alloc_then hb)))
              clear hb c0 c1 c2 c3 c4 zz0 zz1 y0 y1
              have c0 := cell_of_box (bx_later HB.out B_c.out) 0 rfl
              have c1 := cell_of_box (bx_later HB.out B_c.out) 1 rfl
              have c2 := cell_of_box (bx_later HB.out B_c.out) 2 rfl
              have c3 := cell_of_box (bx_later HB.out B_c.out) 3 rfl
              have c4 := cell_of_box (bx_later HB.out B_c.out) 4 rfl
              have zz0 := cell_of_box (bx_later HB.out B_zz.out) 0 rfl
              have zz1 := cell_of_box (bx_later HB.out B_zz.out) 1 rfl
              have y0 := cell_of_box (bx_later HB.out B_y.out) 0 rfl
              have y1 := cell_of_box (bx_later HB.out B_y.out) 1 rfl
              go_wp2_with fail
              refine (vecRight_b true F3.out (Z0.out.later HB.out)).mono ?_
              rintro e wn ⟨rfl, hb⟩
              replace HB := Lib.hid (below_then HB.out (by first | exact hb | exact below_alloc_then hb | exact below_alloc_then (below_alloc_then hb)))
              clear hb c0 c1 c2 c3 c4 zz0 zz1 y0 y1
              have c0 := cell_of_box (bx_later HB.out B_c.out) 0 rfl
              have c1 := cell_of_box (bx_later HB.out B_c.out) 1 rfl
              have c2 := cell_of_box (bx_later HB.out B_c.out) 2 rfl
              have c3 := cell_of_box (bx_later HB.out B_c.out) 3 rfl
              have c4 := cell_of_box (bx_later HB.out B_c.out) 4 rfl
              have zz0 := cell_of_box (bx_later HB.out B_zz.out) 0 rfl
              have zz1 := cell_of_box (bx_later HB.out B_zz.out) 1 rfl
              have y0 := cell_of_box (bx_later HB.out B_y.out) 0 rfl
              have y1 := cell_of_box (bx_later HB.out B_y.out) 1 rfl
              go_wp2_with fail
              refine (right_b true F4.out (P.out.later HB.out) (by omega)).mono ?_
              rintro e wn ⟨rfl, hb⟩
              replace HB := Lib.hid (below_then HB.out (by first | exact hb | exact below_alloc_then hb | exact below_alloc_then (below_alloc_then hb)))
              clear hb c0 c1 c2 c3 c4 zz0 zz1 y0 y1
              have c0 := cell_of_box (bx_later HB.out B_c.out) 0 rfl
              have c1 := cell_of_box (bx_later HB.out B_c.out) 1 rfl
              have c2 := cell_of_box (bx_later HB.out B_c.out) 2 rfl
              have c3 := cell_of_box (bx_later HB.out B_c.out) 3 rfl
              have c4 := cell_of_box (bx_later HB.out B_c.out) 4 rfl
              have zz0 := cell_of_box (bx_later HB.out B_zz.out) 0 rfl
              have zz1 := cell_of_box (bx_later HB.out B_zz.out) 1 rfl
              have y0 := cell_of_box (bx_later HB.out B_y.out) 0 rfl
              have y1 := cell_of_box (bx_later HB.out B_y.out) 1 rfl
              go_wp2_with fail
              refine (refUpto_t F5.out (Z1.out.later HB.out) (Z0.out.later HB.out) (by omega) (by omega)).mono ?_
              rintro e wn ⟨rfl, hb⟩
              replace HB := Lib.hid (below_then HB.out (by first | exact hb | exact below_alloc_then hb | exact below_alloc_then (below_alloc_then hb)))
              clear hb c0 c1 c2 c3 c4 zz0 zz1 y0 y1
              have c0 := cell_of_box (bx_later HB.out B_c.out) 0 rfl
              have c1 := cell_of_box (bx_later HB.out B_c.out) 1 rfl
              have c2 := cell_of_box (bx_later HB.out B_c.out) 2 rfl
              have c3 := cell_of_box (bx_later HB.out B_c.out) 3 rfl
              have c4 := cell_of_box (bx_later HB.out B_c.out) 4 rfl
              have zz0 := cell_of_box (bx_later HB.out B_zz.out) 0 rfl
              have zz1 := cell_of_box (bx_later HB.out B_zz.out) 1 rfl
              have y0 := cell_of_box (bx_later HB.out B_y.out) 0 rfl
              have y1 := cell_of_box (bx_later HB.out B_y.out) 1 rfl
              go_wp2_with fail
              go_loopw [54] (fun vi wr => ∃ k : Nat, k ≤ l.length ∧ vi = .int .i64 k ∧ Hid (∀ p ∈ l.take k, hasV z0 p.d = true) ∧ Hid (Ext w1 wr)) (fun vi _ => l.length - (intOf vi).toNat)
              case atStart => exact ⟨0, Nat.zero_le _, rfl, (fun p hp => by rw [List.take_zero] at hp; cases hp), HB.out⟩
              case round =>
                obtain ⟨k, hk, rfl, hknow, hbw⟩ := hrel
                rename World => wr
                clear HB
                have HB := hbw
                clear c0 c1 c2 c3 c4 zz0 zz1 y0 y1
                have c0 := cell_of_box (bx_later HB.out B_c.out) 0 rfl
                have c1 := cell_of_box (bx_later HB.out B_c.out) 1 rfl
                have c2 := cell_of_box (bx_later HB.out B_c.out) 2 rfl
                have c3 := cell_of_box (bx_later HB.out B_c.out) 3 rfl
                have c4 := cell_of_box (bx_later HB.out B_c.out) 4 rfl
                have zz0 := cell_of_box (bx_later HB.out B_zz.out) 0 rfl
                have zz1 := cell_of_box (bx_later HB.out B_zz.out) 1 rfl
                have y0 := cell_of_box (bx_later HB.out B_y.out) 0 rfl
                have y1 := cell_of_box (bx_later HB.out B_y.out) 1 rfl
                by_cases hlt : k < l.length
                · obtain ⟨x, hx⟩ : ∃ x, l[k] = x := ⟨_, rfl⟩
                  obtain ⟨b1, o1, x1, e0, e1, e2, e3, e4, e5, e6, e7, e8, e9, e10, _⟩ := rd_prt (P.out.later HB.out) rfl k hlt hx
                  have htk : hasV z0 x.d = true → ∀ p ∈ l.take (k + 1), hasV z0 p.d = true := fun h p hp => by
                    rw [List.take_succ_eq_append_getElem hlt, List.mem_append, hx] at hp
                    rcases hp with hp | hp
                    · exact hknow.out p hp
                    · rw [List.mem_singleton.1 hp]; exact h
                  have hbx := below_alloc wr (.cells #[.int .i64 x.v.k, .int .i64 x.v.n, .string x.v.s, .int .i64 x.d.dev, .int .i64 x.d.seq, .int .i64 x.at_, .int .i64 x.tm, .int .i64 x.aft.dev, .int .i64 x.aft.seq, .int .i64 x.aat, .bool x.gone] 43)
                  have y0' := cell_later hbx y0
                  have HBX := Lib.hid hbx
                  have HTK := Lib.hid htk
                  clear hx hbx htk
                  cases hv : hasV z0 x.d
                  all_goals
                    have HV := Lib.hid hv
                    clear hv
                    go_wp2_with fail
                  · refine (refHasV_b false HV.out (Z0.out.later (below_then HB.out HBX.out))).mono ?_
                    rintro e w3 ⟨rfl, hb3⟩
                    replace HB := Lib.hid (below_then HB.out (below_then HBX.out hb3))
                    clear y0' c0 c1 c2 c3 c4 zz0 zz1 y0 y1 e0 e1 e2 e3 e4 e5 e6 e7 e8 e9 e10 hb3
                    have c0 := cell_of_box (bx_later HB.out B_c.out) 0 rfl
                    have c1 := cell_of_box (bx_later HB.out B_c.out) 1 rfl
                    have c2 := cell_of_box (bx_later HB.out B_c.out) 2 rfl
                    have c3 := cell_of_box (bx_later HB.out B_c.out) 3 rfl
                    have c4 := cell_of_box (bx_later HB.out B_c.out) 4 rfl
                    have zz0 := cell_of_box (bx_later HB.out B_zz.out) 0 rfl
                    have zz1 := cell_of_box (bx_later HB.out B_zz.out) 1 rfl
                    have y0 := cell_of_box (bx_later HB.out B_y.out) 0 rfl
                    have y1 := cell_of_box (bx_later HB.out B_y.out) 1 rfl
                    go_wp2_with fail
                    refine (alive_any _).mono ?_
                    rintro e wn ⟨rfl, hb⟩
                    replace HB := Lib.hid (below_then HB.out (by first | exact hb | exact below_alloc_then hb | exact below_alloc_then (below_alloc_then hb)))
                    clear hb c0 c1 c2 c3 c4 zz0 zz1 y0 y1
                    have c0 := cell_of_box (bx_later HB.out B_c.out) 0 rfl
                    have c1 := cell_of_box (bx_later HB.out B_c.out) 1 rfl
                    have c2 := cell_of_box (bx_later HB.out B_c.out) 2 rfl
                    have c3 := cell_of_box (bx_later HB.out B_c.out) 3 rfl
                    have c4 := cell_of_box (bx_later HB.out B_c.out) 4 rfl
                    have zz0 := cell_of_box (bx_later HB.out B_zz.out) 0 rfl
                    have zz1 := cell_of_box (bx_later HB.out B_zz.out) 1 rfl
                    have y0 := cell_of_box (bx_later HB.out B_y.out) 0 rfl
                    have y1 := cell_of_box (bx_later HB.out B_y.out) 1 rfl
                    go_wp2_with fail
                    go_ret
                    exact ⟨by first | rfl | exact ret_bool (by simp), below_then HB1.out HB.out⟩
                  · refine (refHasV_b true HV.out (Z0.out.later (below_then HB.out HBX.out))).mono ?_
                    rintro e w3 ⟨rfl, hb3⟩
                    replace HB := Lib.hid (below_then HB.out (below_then HBX.out hb3))
                    clear y0' c0 c1 c2 c3 c4 zz0 zz1 y0 y1 e0 e1 e2 e3 e4 e5 e6 e7 e8 e9 e10 hb3
                    go_wp2_with fail
                    go_roundw
                    case rel => exact ⟨k + 1, by omega, by go_num, HTK.out HV.out, HB.out⟩
                    case measure => simp [intOf]; omega
                · have hkn : k = l.length := by omega
                  subst hkn
                  have hknow := hknow.out
                  rw [List.take_of_length_le (Nat.le_refl _)] at hknow
                  clear hlt hk
                  go_upto_region 9 with fail
                  have hor := ofV_right F3.out 1
                  have hor2 := ofV_right F3.out 2
                  have hmeet := meetQ_of (rcQ_iff.1 F4.out).rise F3.out hknow F5.out
                  obtain ⟨o1, ho1⟩ : ∃ o1, ofV z0 1 = o1 := ⟨_, rfl⟩
                  obtain ⟨o2, ho2⟩ : ∃ o2, ofV z0 2 = o2 := ⟨_, rfl⟩
                  have hof1 : ∀ W, Ext wr W → Calls Try.prog 22 #[.slice zo0 z0.length zc0, .int .i64 1] W fun e w' => e = .returned (.int .i64 o1) ∧ W = w' := fun W h => by rw [← ho1]; exact refOfV_any _ z0 1 W (Z0.out.later (below_then HB.out h))
                  have hof2 : ∀ W, Ext wr W → Calls Try.prog 22 #[.slice zo0 z0.length zc0, .int .i64 2] W fun e w' => e = .returned (.int .i64 o2) ∧ W = w' := fun W h => by rw [← ho2]; exact refOfV_any _ z0 2 W (Z0.out.later (below_then HB.out h))
                  have hw1 : IntKind.i64.wrap (o1 + 1) = o1 + 1 := by rw [IntKind.wrap_i64]; omega
                  have hw2 : IntKind.i64.wrap (o2 + 1) = o2 + 1 := by rw [IntKind.wrap_i64]; omega
                  rw [ho1] at hor
                  rw [ho2] at hor2
                  rw [ho1, ho2] at hmeet
                  have HOF1 := Lib.hid hof1
                  have HOF2 := Lib.hid hof2
                  have HME := Lib.hid hmeet
                  clear hmeet hof1 hof2 ho1 ho2
                  go_cut [9, 10] (fun s9 s10 wx => ∃ g h : Nat, s9 = .pointer (some ⟨g, 0, none⟩) ∧ s10 = .pointer (some ⟨h, 0, none⟩) ∧ Hid (Bx wx g #[.int .i64 1, .int .i64 (o1 + 1)] 37) ∧ Hid (Bx wx h #[.int .i64 2, .int .i64 (o2 + 1)] 37) ∧ Hid (Ext wr wx))
                  case first =>
                    clear c0 c1 c2 c3 c4 zz0 zz1 y1
                    have hlt : w.heap.size + 2 < wr.heap.size := World.block_lt_of_cell? _ _ y0
                    go_region_held3 (fun w' => w'.cell? ⟨w.heap.size + 2, 0, none⟩ = some (.slice zo0 z0.length zc0)) (first | go_keep | exact cell_later (by first | exact (Below.refl _ _).drew | exact (Below.alloc (Below.refl _ _) (Nat.le_refl _) _).drew | exact (Below.alloc (Below.alloc (Below.refl _ _) (Nat.le_refl _) _) (by simp) _).drew | exact ((Below.alloc (Below.refl _ _) (Nat.le_refl _) _).setCell (by simp) _).drew | exact ((Below.alloc (Below.alloc (Below.refl _ _) (Nat.le_refl _) _) (by simp) _).setCell (by simp) _).drew ) y0) ((first | (go_at_call 22; (with_reducible refine (HOF1.out _ (by first | exact (Below.refl _ _).drew | exact (Below.alloc (Below.refl _ _) (Nat.le_refl _) _).drew | exact (Below.alloc (Below.alloc (Below.refl _ _) (Nat.le_refl _) _) (by simp) _).drew | exact ((Below.alloc (Below.refl _ _) (Nat.le_refl _) _).setCell (by simp) _).drew | exact ((Below.alloc (Below.alloc (Below.refl _ _) (Nat.le_refl _) _) (by simp) _).setCell (by simp) _).drew )).mono ?_); rintro e w' ⟨rfl, rfl⟩) | (go_at_call 22; (with_reducible refine (HOF2.out _ (by first | exact (Below.refl _ _).drew | exact (Below.alloc (Below.refl _ _) (Nat.le_refl _) _).drew | exact (Below.alloc (Below.alloc (Below.refl _ _) (Nat.le_refl _) _) (by simp) _).drew | exact ((Below.alloc (Below.refl _ _) (Nat.le_refl _) _).setCell (by simp) _).drew | exact ((Below.alloc (Below.alloc (Below.refl _ _) (Nat.le_refl _) _) (by simp) _).setCell (by simp) _).drew )).mono ?_); rintro e w' ⟨rfl, rfl⟩)))
                    all_goals
                      go_wp2_with fail
                      go_meet
                      first | exact ⟨_, _, rfl, rfl, (two_new _ _ _ _ _).1, (two_new _ _ _ _ _).2.1, (two_new _ _ _ _ _).2.2⟩ | exact ⟨_, _, rfl, rfl, (two_new _ _ _ _ _).2.1, (two_new _ _ _ _ _).1, (two_new _ _ _ _ _).2.2⟩
                  case rest =>
                    obtain ⟨gd, ge, rfl, rfl, bd, be, hbx⟩ := hcut
                    have hbn := below_then HB.out hbx.out
                    clear c0 c1 c2 c3 c4 zz0 zz1 y0 y1
                    replace B_c := Lib.hid (bx_later hbn B_c.out)
                    replace B_zz := Lib.hid (bx_later hbn B_zz.out)
                    replace B_y := Lib.hid (bx_later hbn B_y.out)
                    replace P := Lib.hid (P.out.later hbn)
                    replace Z0 := Lib.hid (Z0.out.later hbn)
                    replace Z1 := Lib.hid (Z1.out.later hbn)
                    replace HB1 := Lib.hid (below_then HB1.out hbn)
                    clear HB hbn
                    have HB := Lib.hid (Below.refl wc.heap.size wc)
                    have B_d := Lib.hid (bd.out)
                    have B_q := Lib.hid (be.out)
                    have c0 := cell_of_box (bx_later HB.out B_c.out) 0 rfl
                    have c1 := cell_of_box (bx_later HB.out B_c.out) 1 rfl
                    have c2 := cell_of_box (bx_later HB.out B_c.out) 2 rfl
                    have c3 := cell_of_box (bx_later HB.out B_c.out) 3 rfl
                    have c4 := cell_of_box (bx_later HB.out B_c.out) 4 rfl
                    have zz0 := cell_of_box (bx_later HB.out B_zz.out) 0 rfl
                    have zz1 := cell_of_box (bx_later HB.out B_zz.out) 1 rfl
                    have y0 := cell_of_box (bx_later HB.out B_y.out) 0 rfl
                    have y1 := cell_of_box (bx_later HB.out B_y.out) 1 rfl
                    have d0 := cell_of_box (bx_later HB.out B_d.out) 0 rfl
                    have d1 := cell_of_box (bx_later HB.out B_d.out) 1 rfl
                    have q0 := cell_of_box (bx_later HB.out B_q.out) 0 rfl
                    have q1 := cell_of_box (bx_later HB.out B_q.out) 1 rfl
                    clear bd be hbx HOF1 HOF2
                    obtain ⟨ma, hma⟩ : ∃ ma, addQ l n0 ⟨1, o1 + 1⟩ = ma := ⟨_, rfl⟩
                    obtain ⟨mb, hmb⟩ : ∃ mb, takeQ l n1 ⟨2, o2 + 1⟩ z1 = mb := ⟨_, rfl⟩
                    obtain ⟨mc, hmc⟩ : ∃ mc, takeQ ma n1 ⟨2, o2 + 1⟩ z1 = mc := ⟨_, rfl⟩
                    obtain ⟨sx, hsx⟩ : ∃ sx, setL z0 1 (o1 + 1) = sx := ⟨_, rfl⟩
                    obtain ⟨sy, hsy⟩ : ∃ sy, setL z0 2 (o2 + 1) = sy := ⟨_, rfl⟩
                    have hme := HME.out
                    rw [hsx, hsy] at hme
                    have hj1 := hme.all n0 n1
                    have hj2 := hme.all' n0 n1
                    have hj5 := take_put hme.rise (hme.stay n0 n1)
                    have hhn := has_take_put (l := l) (hme.stay n0 n1)
                    rw [hma, hmb, hmc] at hj1 hj2
                    rw [hma, hmc, hmb] at hj5
                    rw [hma, hmc] at hhn
                    have hj3 : joinQ ma ma sx sx = ma := joinQ_self (by rw [← hma]; exact addQ_rise hme.rise _ _) _ _
                    have hla : ma.length ≤ 61 := by rw [← hma]; have := (addQ_length l n0 ⟨1, o1 + 1⟩).2; omega
                    have hlb : mb.length ≤ 61 := by rw [← hmb]; have := takeQ_length l n1 ⟨2, o2 + 1⟩ z1; omega
                    have hlc : mc.length ≤ 62 := by rw [← hmc]; have := takeQ_length ma n1 ⟨2, o2 + 1⟩ z1; omega
                    have hrcq := rcQ_iff.1 F4.out
                    have hrk := hrcq.kind
                    have hrv := hrcq.val
                    subst hrk
                    unfold nilV at hrv
                    cases hrv
                    have HMA := Lib.hid hma
                    have HMB := Lib.hid hmb
                    have HMC := Lib.hid hmc
                    have HSX := Lib.hid hsx
                    have HSY := Lib.hid hsy
                    have HJ1 := Lib.hid hj1
                    have HJ2 := Lib.hid hj2
                    have HJ3 := Lib.hid hj3
                    have HJ5 := Lib.hid hj5.symm
                    have HHN := Lib.hid hhn
                    clear hma hmb hmc hsx hsy hj1 hj2 hj3 hj5 hhn hme HME hrcq
                    go_upto_region 10 with fail
                    refine wp_region_flow (by kernel_rfl) 14 [(4, ⟨fun v => ∃ a k, v = .agg #[.int .i64 3, .int .i64 0, .int .i64 0, .string ⟨#[]⟩, .slice a ma.length k], fun v _ _ w' => ∃ a k, v = .agg #[.int .i64 3, .int .i64 0, .int .i64 0, .string ⟨#[]⟩, .slice a ma.length k] ∧ OwnP w' wc.heap.size (.slice a ma.length k) ma⟩), (11, ⟨fun v => ∃ a k, v = .agg #[.int .i64 3, .int .i64 0, .int .i64 0, .string ⟨#[]⟩, .slice a mb.length k], fun v _ _ w' => ∃ a k, v = .agg #[.int .i64 3, .int .i64 0, .int .i64 0, .string ⟨#[]⟩, .slice a mb.length k] ∧ OwnP w' wc.heap.size (.slice a mb.length k) mb⟩), (12, ⟨fun v => ∃ g : Nat, v = .pointer (some ⟨g, 0, none⟩), fun v lo hi w' => ∃ g : Nat, v = .pointer (some ⟨g, 0, none⟩) ∧ Bx w' g #[.int .i64 0, .int .i64 0, .int .i64 0, .string ⟨#[]⟩, .slice none 0 0] 26 ∧ wc.heap.size ≤ g ∧ lo ≤ g ∧ g < hi⟩), (13, ⟨fun v => ∃ g : Nat, v = .pointer (some ⟨g, 0, none⟩), fun v lo hi w' => ∃ g : Nat, v = .pointer (some ⟨g, 0, none⟩) ∧ Bx w' g #[.int .i64 0, .int .i64 0, .int .i64 0, .string ⟨#[]⟩, .slice none 0 0] 26 ∧ wc.heap.size ≤ g ∧ lo ≤ g ∧ g < hi⟩)] (by kernel_rfl) ?_ ?_ ?_
                    · intro x hx
                      simp only [List.mem_cons, List.not_mem_nil, or_false] at hx
                      rcases hx with rfl | rfl | rfl | rfl
                      · exact ⟨_, none, 0, rfl⟩
                      · exact ⟨_, none, 0, rfl⟩
                      · exact ⟨_, 0, rfl⟩
                      · exact ⟨_, 0, rfl⟩
                    · intro x hx v lo hi w w' h hb
                      simp only [List.mem_cons, List.not_mem_nil, or_false] at hx
                      rcases hx with rfl | rfl | rfl | rfl
                      · obtain ⟨a, k, rfl, ho⟩ := h
                        exact ⟨a, k, rfl, own_later ho hb⟩
                      · obtain ⟨a, k, rfl, ho⟩ := h
                        exact ⟨a, k, rfl, own_later ho hb⟩
                      · obtain ⟨g, rfl, h1, h2, h3, h4⟩ := h
                        exact ⟨g, rfl, bx_later hb h1, h2, h3, h4⟩
                      · obtain ⟨g, rfl, h1, h2, h3, h4⟩ := h
                        exact ⟨g, rfl, bx_later hb h1, h2, h3, h4⟩
                    · intro lo hi
                      have kc0 := cell_regrown c0
                      have kc1 := cell_regrown c1
                      have kc2 := cell_regrown c2
                      have kc3 := cell_regrown c3
                      have kc4 := cell_regrown c4
                      have kzz0 := cell_regrown zz0
                      have kzz1 := cell_regrown zz1
                      have ky0 := cell_regrown y0
                      have ky1 := cell_regrown y1
                      have kd0 := cell_regrown d0
                      have kd1 := cell_regrown d1
                      have kq0 := cell_regrown q0
                      have kq1 := cell_regrown q1
                      refine flowW_plain rfl ?_
                      go_big_quiet_step (fail)
                      refine wpQuiet_nil ?_
                      refine flowW_plain rfl ?_
                      go_big_quiet_step (fail)
                      refine wpQuiet_nil ?_
                      refine flowW_plain rfl ?_
                      go_big_quiet_step (fail)
                      refine wpQuiet_nil ?_
                      refine flowW_plain rfl ?_
                      go_big_quiet_step (fail)
                      refine wpQuiet_nil ?_
                      refine flowW_call rfl rfl ?_ ?_
                      · intro W hW hF K hK
                        clear kc0 kc1 kc2 kc3 kc4 kzz0 kzz1 ky0 ky1 kd0 kd1 kq0 kq1
                        go_wp2_with fail
                        refine (put_o (P.out.later (below_then HB.out hW)) (by omega) HMA.out).mono ?_
                        rintro e wq ⟨a, k, rfl, ho, hbq⟩
                        go_wp2_with fail
                        exact hK _ _ ⟨a, k, rfl⟩ ⟨a, k, rfl, own_monoP ho hW.size⟩ hbq
                      rintro v ⟨a4, k4, rfl⟩ K hK
                      go_simp
                      refine hK _ ?_
                      clear hK K
                      refine flowW_plain rfl ?_
                      go_big_quiet_step (fail)
                      refine wpQuiet_nil ?_
                      refine flowW_plain rfl ?_
                      go_big_quiet_step (fail)
                      refine wpQuiet_nil ?_
                      refine flowW_plain rfl ?_
                      go_big_quiet_step (fail)
                      refine wpQuiet_nil ?_
                      refine flowW_plain rfl ?_
                      go_big_quiet_step (fail)
                      refine wpQuiet_nil ?_
                      refine flowW_plain rfl ?_
                      go_big_quiet_step (fail)
                      refine wpQuiet_nil ?_
                      refine flowW_plain rfl ?_
                      go_big_quiet_step (fail)
                      refine wpQuiet_nil ?_
                      refine flowW_call rfl rfl ?_ ?_
                      · intro W hW hF K hK
                        clear kc0 kc1 kc2 kc3 kc4 kzz0 kzz1 ky0 ky1 kd0 kd1 kq0 kq1
                        go_wp2_with fail
                        refine (take_o z1 (P.out.later (below_then HB.out hW)) (Z1.out.later (below_then HB.out hW)) (by omega) HMB.out).mono ?_
                        rintro e wq ⟨a, k, rfl, ho, hbq⟩
                        go_wp2_with fail
                        exact hK _ _ ⟨a, k, rfl⟩ ⟨a, k, rfl, own_monoP ho hW.size⟩ hbq
                      rintro v ⟨a11, k11, rfl⟩ K hK
                      go_simp
                      refine hK _ ?_
                      clear hK K
                      refine flowW_call rfl rfl ?_ ?_
                      · intro W hW hF K hK
                        clear kc0 kc1 kc2 kc3 kc4 kzz0 kzz1 ky0 ky1 kd0 kd1 kq0 kq1
                        go_wp2_with fail
                        exact hK _ _ ⟨_, rfl⟩ ⟨_, rfl, bx_new rfl, hW.size, Nat.le_refl _, by simp⟩ (below_alloc _ _)
                      rintro v ⟨g12, rfl⟩ K hK
                      go_simp
                      refine hK _ ?_
                      clear hK K
                      refine flowW_call rfl rfl ?_ ?_
                      · intro W hW hF K hK
                        clear kc0 kc1 kc2 kc3 kc4 kzz0 kzz1 ky0 ky1 kd0 kd1 kq0 kq1
                        go_wp2_with fail
                        exact hK _ _ ⟨_, rfl⟩ ⟨_, rfl, bx_new rfl, hW.size, Nat.le_refl _, by simp⟩ (below_alloc _ _)
                      rintro v ⟨g13, rfl⟩ K hK
                      go_simp
                      refine hK _ ?_
                      clear hK K
                      refine flowW_end fun wz hwz hF hD => ?_
                      clear kc0 kc1 kc2 kc3 kc4 kzz0 kzz1 ky0 ky1 kd0 kd1 kq0 kq1
                      simp only [List.drop_succ_cons, List.drop_zero]
                      obtain ⟨_, _, he, hoa⟩ := hF 4
                      cases he
                      obtain ⟨_, _, he, hob⟩ := hF 11
                      cases he
                      obtain ⟨_, he, bg12, hg12, l12, u12⟩ := hF 12
                      cases he
                      obtain ⟨_, he, bg13, hg13, l13, u13⟩ := hF 13
                      cases he
                      have hdj : hi 12 ≤ lo 13 ∨ hi 13 ≤ lo 12 := hD 12 13 (by decide) rfl rfl
                      replace l12 : lo 12 ≤ g12 := l12
                      replace u12 : g12 < hi 12 := u12
                      replace l13 : lo 13 ≤ g13 := l13
                      replace u13 : g13 < hi 13 := u13
                      have hgg : g12 ≠ g13 := by omega
                      refine wpList_store_box rfl _ _ rfl rfl rfl (by kernel_rfl) bg12 rfl rfl rfl rfl ?_
                      have bg13' := bx_row_other bg13 (fun h => hgg h.symm) #[(.int .i64 3), (.int .i64 0), (.int .i64 0), (.string ⟨#[]⟩), (.slice a4 ma.length k4)]
                      refine wpList_store_box rfl _ _ rfl rfl rfl (by kernel_rfl) bg13' rfl rfl rfl rfl ?_
                      have hbn := below_row (below_row (below_then HB.out hwz) (Nat.le_trans HB.out.size hg12) #[(.int .i64 3), (.int .i64 0), (.int .i64 0), (.string ⟨#[]⟩), (.slice a4 ma.length k4)]) (Nat.le_trans HB.out.size hg13) #[(.int .i64 3), (.int .i64 0), (.int .i64 0), (.string ⟨#[]⟩), (.slice a11 mb.length k11)]
                      have bn12 := bx_row_other (bx_row bg12 #[(.int .i64 3), (.int .i64 0), (.int .i64 0), (.string ⟨#[]⟩), (.slice a4 ma.length k4)]) hgg #[(.int .i64 3), (.int .i64 0), (.int .i64 0), (.string ⟨#[]⟩), (.slice a11 mb.length k11)]
                      have bn13 := bx_row bg13' #[(.int .i64 3), (.int .i64 0), (.int .i64 0), (.string ⟨#[]⟩), (.slice a11 mb.length k11)]
                      have hna := Rd.of_own (own_row (own_row hoa bg12 rfl #[(.int .i64 3), (.int .i64 0), (.int .i64 0), (.string ⟨#[]⟩), (.slice a4 ma.length k4)]) bg13' rfl #[(.int .i64 3), (.int .i64 0), (.int .i64 0), (.string ⟨#[]⟩), (.slice a11 mb.length k11)])
                      have hnb := Rd.of_own (own_row (own_row hob bg12 rfl #[(.int .i64 3), (.int .i64 0), (.int .i64 0), (.string ⟨#[]⟩), (.slice a4 ma.length k4)]) bg13' rfl #[(.int .i64 3), (.int .i64 0), (.int .i64 0), (.string ⟨#[]⟩), (.slice a11 mb.length k11)])
                      have HBN := Lib.hid hbn
                      have BN12 := Lib.hid bn12
                      have BN13 := Lib.hid bn13
                      have HNA := Lib.hid hna
                      have HNB := Lib.hid hnb
                      clear hna hnb hbn bn12 bn13 bg12 bg13 bg13' hF hD hoa hob hdj l12 u12 l13 u13 c0 c1 c2 c3 c4 zz0 zz1 y0 y1 d0 d1 q0 q1
                      go_upto_region 11 with fail
                      replace B_c := Lib.hid (bx_later HBN.out B_c.out)
                      replace B_zz := Lib.hid (bx_later HBN.out B_zz.out)
                      replace B_y := Lib.hid (bx_later HBN.out B_y.out)
                      replace B_d := Lib.hid (bx_later HBN.out B_d.out)
                      replace B_q := Lib.hid (bx_later HBN.out B_q.out)
                      replace P := Lib.hid (P.out.later HBN.out)
                      replace Z0 := Lib.hid (Z0.out.later HBN.out)
                      replace Z1 := Lib.hid (Z1.out.later HBN.out)
                      replace HB1 := Lib.hid (below_then HB1.out HBN.out)
                      clear HBN HB hwz hg12 hg13
                      generalize (wz.setRow g12 #[(.int .i64 3), (.int .i64 0), (.int .i64 0), (.string ⟨#[]⟩), (.slice a4 ma.length k4)]).setRow g13 #[(.int .i64 3), (.int .i64 0), (.int .i64 0), (.string ⟨#[]⟩), (.slice a11 mb.length k11)] = w2 at *
                      have HB := Lib.hid (Below.refl w2.heap.size w2)
                      have B_r := BN12
                      have B_s := BN13
                      have P_r := HNA
                      have P_s := HNB
                      clear BN12 BN13 HNA HNB
                      have c0 := cell_of_box (bx_later HB.out B_c.out) 0 rfl
                      have c1 := cell_of_box (bx_later HB.out B_c.out) 1 rfl
                      have c2 := cell_of_box (bx_later HB.out B_c.out) 2 rfl
                      have c3 := cell_of_box (bx_later HB.out B_c.out) 3 rfl
                      have c4 := cell_of_box (bx_later HB.out B_c.out) 4 rfl
                      have zz0 := cell_of_box (bx_later HB.out B_zz.out) 0 rfl
                      have zz1 := cell_of_box (bx_later HB.out B_zz.out) 1 rfl
                      have y0 := cell_of_box (bx_later HB.out B_y.out) 0 rfl
                      have y1 := cell_of_box (bx_later HB.out B_y.out) 1 rfl
                      have d0 := cell_of_box (bx_later HB.out B_d.out) 0 rfl
                      have d1 := cell_of_box (bx_later HB.out B_d.out) 1 rfl
                      have q0 := cell_of_box (bx_later HB.out B_q.out) 0 rfl
                      have q1 := cell_of_box (bx_later HB.out B_q.out) 1 rfl
                      have r0 := cell_of_box (bx_later HB.out B_r.out) 0 rfl
                      have r1 := cell_of_box (bx_later HB.out B_r.out) 1 rfl
                      have r2 := cell_of_box (bx_later HB.out B_r.out) 2 rfl
                      have r3 := cell_of_box (bx_later HB.out B_r.out) 3 rfl
                      have r4 := cell_of_box (bx_later HB.out B_r.out) 4 rfl
                      have s0 := cell_of_box (bx_later HB.out B_s.out) 0 rfl
                      have s1 := cell_of_box (bx_later HB.out B_s.out) 1 rfl
                      have s2 := cell_of_box (bx_later HB.out B_s.out) 2 rfl
                      have s3 := cell_of_box (bx_later HB.out B_s.out) 3 rfl
                      have s4 := cell_of_box (bx_later HB.out B_s.out) 4 rfl
                      refine wp_region_flow (by kernel_rfl) 10 [(4, ⟨fun v => ∃ a k, v = .slice a sx.length k, fun v _ _ w' => ∃ a k, v = .slice a sx.length k ∧ Rd w' (.slice a sx.length k) sx.length (sx.map ic)⟩), (9, ⟨fun v => ∃ a k, v = .slice a sy.length k, fun v _ _ w' => ∃ a k, v = .slice a sy.length k ∧ Rd w' (.slice a sy.length k) sy.length (sy.map ic)⟩)] (by kernel_rfl) ?_ ?_ ?_
                      · intro x hx
                        simp only [List.mem_cons, List.not_mem_nil, or_false] at hx
                        rcases hx with rfl | rfl
                        · exact ⟨_, none, 0, rfl⟩
                        · exact ⟨_, none, 0, rfl⟩
                      · intro x hx v lo hi w w' h hb
                        simp only [List.mem_cons, List.not_mem_nil, or_false] at hx
                        rcases hx with rfl | rfl
                        · obtain ⟨a, k, rfl, ho⟩ := h
                          exact ⟨a, k, rfl, ho.later hb⟩
                        · obtain ⟨a, k, rfl, ho⟩ := h
                          exact ⟨a, k, rfl, ho.later hb⟩
                      · intro lo hi
                        have kc0 := cell_regrown c0
                        have kc1 := cell_regrown c1
                        have kc2 := cell_regrown c2
                        have kc3 := cell_regrown c3
                        have kc4 := cell_regrown c4
                        have kzz0 := cell_regrown zz0
                        have kzz1 := cell_regrown zz1
                        have ky0 := cell_regrown y0
                        have ky1 := cell_regrown y1
                        have kd0 := cell_regrown d0
                        have kd1 := cell_regrown d1
                        have kq0 := cell_regrown q0
                        have kq1 := cell_regrown q1
                        have kr0 := cell_regrown r0
                        have kr1 := cell_regrown r1
                        have kr2 := cell_regrown r2
                        have kr3 := cell_regrown r3
                        have kr4 := cell_regrown r4
                        have ks0 := cell_regrown s0
                        have ks1 := cell_regrown s1
                        have ks2 := cell_regrown s2
                        have ks3 := cell_regrown s3
                        have ks4 := cell_regrown s4
                        refine flowW_plain rfl ?_
                        go_big_quiet_step (fail)
                        refine wpQuiet_nil ?_
                        refine flowW_plain rfl ?_
                        go_big_quiet_step (fail)
                        refine wpQuiet_nil ?_
                        refine flowW_plain rfl ?_
                        go_big_quiet_step (fail)
                        refine wpQuiet_nil ?_
                        refine flowW_plain rfl ?_
                        go_big_quiet_step (fail)
                        refine wpQuiet_nil ?_
                        refine flowW_call rfl rfl ?_ ?_
                        · intro W hW hF K hK
                          clear kc0 kc1 kc2 kc3 kc4 kzz0 kzz1 ky0 ky1 kd0 kd1 kq0 kq1 kr0 kr1 kr2 kr3 kr4 ks0 ks1 ks2 ks3 ks4
                          go_wp2_with fail
                          refine (refSet_any _ z0 1 _ W (Z0.out.later (below_then HB.out hW)) (by decide) (by decide) (by omega)).mono ?_
                          rintro e wq ⟨v, rfl, ho, hbq⟩
                          rw [HSX.out] at ho
                          obtain ⟨a, k, rfl, -, -, -, -⟩ := id ho
                          go_wp2_with fail
                          exact hK _ _ ⟨a, k, rfl⟩ ⟨a, k, rfl, ho⟩ hbq
                        rintro v ⟨a4, k4, rfl⟩ K hK
                        go_simp
                        refine hK _ ?_
                        clear hK K
                        refine flowW_plain rfl ?_
                        go_big_quiet_step (fail)
                        refine wpQuiet_nil ?_
                        refine flowW_plain rfl ?_
                        go_big_quiet_step (fail)
                        refine wpQuiet_nil ?_
                        refine flowW_plain rfl ?_
                        go_big_quiet_step (fail)
                        refine wpQuiet_nil ?_
                        refine flowW_plain rfl ?_
                        go_big_quiet_step (fail)
                        refine wpQuiet_nil ?_
                        refine flowW_call rfl rfl ?_ ?_
                        · intro W hW hF K hK
                          clear kc0 kc1 kc2 kc3 kc4 kzz0 kzz1 ky0 ky1 kd0 kd1 kq0 kq1 kr0 kr1 kr2 kr3 kr4 ks0 ks1 ks2 ks3 ks4
                          go_wp2_with fail
                          refine (refSet_any _ z0 2 _ W (Z0.out.later (below_then HB.out hW)) (by decide) (by decide) (by omega)).mono ?_
                          rintro e wq ⟨v, rfl, ho, hbq⟩
                          rw [HSY.out] at ho
                          obtain ⟨a, k, rfl, -, -, -, -⟩ := id ho
                          go_wp2_with fail
                          exact hK _ _ ⟨a, k, rfl⟩ ⟨a, k, rfl, ho⟩ hbq
                        rintro v ⟨a9, k9, rfl⟩ K hK
                        go_simp
                        refine hK _ ?_
                        clear hK K
                        refine flowW_end fun wz hwz hF hD => ?_
                        clear kc0 kc1 kc2 kc3 kc4 kzz0 kzz1 ky0 ky1 kd0 kd1 kq0 kq1 kr0 kr1 kr2 kr3 kr4 ks0 ks1 ks2 ks3 ks4
                        simp only [List.drop_succ_cons, List.drop_zero]
                        obtain ⟨_, _, he, h4⟩ := hF 4
                        cases he
                        obtain ⟨_, _, he, h9⟩ := hF 9
                        cases he
                        have HX := Lib.hid h4
                        have HY := Lib.hid h9
                        replace HB := Lib.hid (below_then HB.out hwz)
                        clear hwz hF hD h4 h9 c0 c1 c2 c3 c4 zz0 zz1 y0 y1 d0 d1 q0 q1 r0 r1 r2 r3 r4 s0 s1 s2 s3 s4
                        have c0 := cell_of_box (bx_later HB.out B_c.out) 0 rfl
                        have c1 := cell_of_box (bx_later HB.out B_c.out) 1 rfl
                        have c2 := cell_of_box (bx_later HB.out B_c.out) 2 rfl
                        have c3 := cell_of_box (bx_later HB.out B_c.out) 3 rfl
                        have c4 := cell_of_box (bx_later HB.out B_c.out) 4 rfl
                        have zz0 := cell_of_box (bx_later HB.out B_zz.out) 0 rfl
                        have zz1 := cell_of_box (bx_later HB.out B_zz.out) 1 rfl
                        have y0 := cell_of_box (bx_later HB.out B_y.out) 0 rfl
                        have y1 := cell_of_box (bx_later HB.out B_y.out) 1 rfl
                        have d0 := cell_of_box (bx_later HB.out B_d.out) 0 rfl
                        have d1 := cell_of_box (bx_later HB.out B_d.out) 1 rfl
                        have q0 := cell_of_box (bx_later HB.out B_q.out) 0 rfl
                        have q1 := cell_of_box (bx_later HB.out B_q.out) 1 rfl
                        have r0 := cell_of_box (bx_later HB.out B_r.out) 0 rfl
                        have r1 := cell_of_box (bx_later HB.out B_r.out) 1 rfl
                        have r2 := cell_of_box (bx_later HB.out B_r.out) 2 rfl
                        have r3 := cell_of_box (bx_later HB.out B_r.out) 3 rfl
                        have r4 := cell_of_box (bx_later HB.out B_r.out) 4 rfl
                        have s0 := cell_of_box (bx_later HB.out B_s.out) 0 rfl
                        have s1 := cell_of_box (bx_later HB.out B_s.out) 1 rfl
                        have s2 := cell_of_box (bx_later HB.out B_s.out) 2 rfl
                        have s3 := cell_of_box (bx_later HB.out B_s.out) 3 rfl
                        have s4 := cell_of_box (bx_later HB.out B_s.out) 4 rfl
                        go_upto_region 12 with fail
                        have HX2 := Lib.hid (HX.out.later (Below.refl _ _))
                        have HY2 := Lib.hid (HY.out.later (Below.refl _ _))
                        clear HX HY
                        have hbn := HB.out
                        clear c0 c1 c2 c3 c4 zz0 zz1 y0 y1 d0 d1 q0 q1 r0 r1 r2 r3 r4 s0 s1 s2 s3 s4
                        replace B_c := Lib.hid (bx_later hbn B_c.out)
                        replace B_zz := Lib.hid (bx_later hbn B_zz.out)
                        replace B_y := Lib.hid (bx_later hbn B_y.out)
                        replace B_d := Lib.hid (bx_later hbn B_d.out)
                        replace B_q := Lib.hid (bx_later hbn B_q.out)
                        replace B_r := Lib.hid (bx_later hbn B_r.out)
                        replace B_s := Lib.hid (bx_later hbn B_s.out)
                        replace P := Lib.hid (P.out.later hbn)
                        replace Z0 := Lib.hid (Z0.out.later hbn)
                        replace Z1 := Lib.hid (Z1.out.later hbn)
                        replace P_r := Lib.hid (P_r.out.later hbn)
                        replace P_s := Lib.hid (P_s.out.later hbn)
                        replace HB1 := Lib.hid (below_then HB1.out hbn)
                        clear HB hbn
                        have HB := Lib.hid (Below.refl wz.heap.size wz)
                        have c0 := cell_of_box (bx_later HB.out B_c.out) 0 rfl
                        have c1 := cell_of_box (bx_later HB.out B_c.out) 1 rfl
                        have c2 := cell_of_box (bx_later HB.out B_c.out) 2 rfl
                        have c3 := cell_of_box (bx_later HB.out B_c.out) 3 rfl
                        have c4 := cell_of_box (bx_later HB.out B_c.out) 4 rfl
                        have zz0 := cell_of_box (bx_later HB.out B_zz.out) 0 rfl
                        have zz1 := cell_of_box (bx_later HB.out B_zz.out) 1 rfl
                        have y0 := cell_of_box (bx_later HB.out B_y.out) 0 rfl
                        have y1 := cell_of_box (bx_later HB.out B_y.out) 1 rfl
                        have d0 := cell_of_box (bx_later HB.out B_d.out) 0 rfl
                        have d1 := cell_of_box (bx_later HB.out B_d.out) 1 rfl
                        have q0 := cell_of_box (bx_later HB.out B_q.out) 0 rfl
                        have q1 := cell_of_box (bx_later HB.out B_q.out) 1 rfl
                        have r0 := cell_of_box (bx_later HB.out B_r.out) 0 rfl
                        have r1 := cell_of_box (bx_later HB.out B_r.out) 1 rfl
                        have r2 := cell_of_box (bx_later HB.out B_r.out) 2 rfl
                        have r3 := cell_of_box (bx_later HB.out B_r.out) 3 rfl
                        have r4 := cell_of_box (bx_later HB.out B_r.out) 4 rfl
                        have s0 := cell_of_box (bx_later HB.out B_s.out) 0 rfl
                        have s1 := cell_of_box (bx_later HB.out B_s.out) 1 rfl
                        have s2 := cell_of_box (bx_later HB.out B_s.out) 2 rfl
                        have s3 := cell_of_box (bx_later HB.out B_s.out) 3 rfl
                        have s4 := cell_of_box (bx_later HB.out B_s.out) 4 rfl
                        go_wp2_with fail
                        refine (take_o z1 (P_r.out.later HB.out) (Z1.out.later HB.out) (by omega) HMC.out).mono ?_
                        rintro e wn ⟨a_t, k_t, rfl, ho, hb⟩
                        have P_t := Lib.hid (Rd.of_own ho)
                        replace HB := Lib.hid (below_then HB.out (by first | exact hb | exact below_alloc_then hb))
                        clear hb ho c0 c1 c2 c3 c4 zz0 zz1 y0 y1 d0 d1 q0 q1 r0 r1 r2 r3 r4 s0 s1 s2 s3 s4
                        go_upto_region 13 with fail
                        obtain ⟨w3, hnew⟩ : ∃ w3, wn.alloc (.cells #[(.int .i64 3), (.int .i64 0), (.int .i64 0), (.string ⟨#[]⟩), (.slice a_t mc.length k_t)] 26) = w3 := ⟨_, rfl⟩
                        have hbw : Below wn.heap.size wn w3 := by rw [← hnew]; exact below_alloc _ _
                        have bnew : Bx w3 wn.heap.size #[(.int .i64 3), (.int .i64 0), (.int .i64 0), (.string ⟨#[]⟩), (.slice a_t mc.length k_t)] 26 := by rw [← hnew]; exact bx_new rfl
                        rw [hnew]
                        clear hnew
                        obtain ⟨g_t, hg⟩ : ∃ g, wn.heap.size = g := ⟨_, rfl⟩
                        rw [hg] at bnew ⊢
                        replace P_t := Lib.hid (P_t.out.later hbw)
                        have hbn := below_then HB.out hbw
                        replace B_c := Lib.hid (bx_later hbn B_c.out)
                        replace B_zz := Lib.hid (bx_later hbn B_zz.out)
                        replace B_y := Lib.hid (bx_later hbn B_y.out)
                        replace B_d := Lib.hid (bx_later hbn B_d.out)
                        replace B_q := Lib.hid (bx_later hbn B_q.out)
                        replace B_r := Lib.hid (bx_later hbn B_r.out)
                        replace B_s := Lib.hid (bx_later hbn B_s.out)
                        replace P := Lib.hid (P.out.later hbn)
                        replace Z0 := Lib.hid (Z0.out.later hbn)
                        replace Z1 := Lib.hid (Z1.out.later hbn)
                        replace P_r := Lib.hid (P_r.out.later hbn)
                        replace P_s := Lib.hid (P_s.out.later hbn)
                        replace HX2 := Lib.hid (HX2.out.later hbn)
                        replace HY2 := Lib.hid (HY2.out.later hbn)
                        replace HB1 := Lib.hid (below_then HB1.out hbn)
                        clear HB hbn hbw hg
                        have HB := Lib.hid (Below.refl w3.heap.size w3)
                        have B_t := Lib.hid bnew
                        clear bnew
                        have c0 := cell_of_box (bx_later HB.out B_c.out) 0 rfl
                        have c1 := cell_of_box (bx_later HB.out B_c.out) 1 rfl
                        have c2 := cell_of_box (bx_later HB.out B_c.out) 2 rfl
                        have c3 := cell_of_box (bx_later HB.out B_c.out) 3 rfl
                        have c4 := cell_of_box (bx_later HB.out B_c.out) 4 rfl
                        have zz0 := cell_of_box (bx_later HB.out B_zz.out) 0 rfl
                        have zz1 := cell_of_box (bx_later HB.out B_zz.out) 1 rfl
                        have y0 := cell_of_box (bx_later HB.out B_y.out) 0 rfl
                        have y1 := cell_of_box (bx_later HB.out B_y.out) 1 rfl
                        have d0 := cell_of_box (bx_later HB.out B_d.out) 0 rfl
                        have d1 := cell_of_box (bx_later HB.out B_d.out) 1 rfl
                        have q0 := cell_of_box (bx_later HB.out B_q.out) 0 rfl
                        have q1 := cell_of_box (bx_later HB.out B_q.out) 1 rfl
                        have r0 := cell_of_box (bx_later HB.out B_r.out) 0 rfl
                        have r1 := cell_of_box (bx_later HB.out B_r.out) 1 rfl
                        have r2 := cell_of_box (bx_later HB.out B_r.out) 2 rfl
                        have r3 := cell_of_box (bx_later HB.out B_r.out) 3 rfl
                        have r4 := cell_of_box (bx_later HB.out B_r.out) 4 rfl
                        have s0 := cell_of_box (bx_later HB.out B_s.out) 0 rfl
                        have s1 := cell_of_box (bx_later HB.out B_s.out) 1 rfl
                        have s2 := cell_of_box (bx_later HB.out B_s.out) 2 rfl
                        have s3 := cell_of_box (bx_later HB.out B_s.out) 3 rfl
                        have s4 := cell_of_box (bx_later HB.out B_s.out) 4 rfl
                        have t0 := cell_of_box (bx_later HB.out B_t.out) 0 rfl
                        have t1 := cell_of_box (bx_later HB.out B_t.out) 1 rfl
                        have t2 := cell_of_box (bx_later HB.out B_t.out) 2 rfl
                        have t3 := cell_of_box (bx_later HB.out B_t.out) 3 rfl
                        have t4 := cell_of_box (bx_later HB.out B_t.out) 4 rfl
                        refine wp_region_flow (by kernel_rfl) 44 [(0, ⟨fun v => v = .bool true, fun _ _ _ _ => True⟩), (6, ⟨fun v => ∃ a k, v = .agg #[.int .i64 3, .int .i64 0, .int .i64 0, .string ⟨#[]⟩, .slice a mc.length k], fun v _ _ w' => ∃ a k, v = .agg #[.int .i64 3, .int .i64 0, .int .i64 0, .string ⟨#[]⟩, .slice a mc.length k] ∧ PRd w' (.slice a mc.length k) mc⟩), (8, ⟨fun v => v = .bool true, fun _ _ _ _ => True⟩), (15, ⟨fun v => ∃ a k, v = .agg #[.int .i64 3, .int .i64 0, .int .i64 0, .string ⟨#[]⟩, .slice a mc.length k], fun v _ _ w' => ∃ a k, v = .agg #[.int .i64 3, .int .i64 0, .int .i64 0, .string ⟨#[]⟩, .slice a mc.length k] ∧ PRd w' (.slice a mc.length k) mc⟩), (17, ⟨fun v => v = .bool true, fun _ _ _ _ => True⟩), (24, ⟨fun v => ∃ a k, v = .agg #[.int .i64 3, .int .i64 0, .int .i64 0, .string ⟨#[]⟩, .slice a mc.length k], fun v _ _ w' => ∃ a k, v = .agg #[.int .i64 3, .int .i64 0, .int .i64 0, .string ⟨#[]⟩, .slice a mc.length k] ∧ PRd w' (.slice a mc.length k) mc⟩), (26, ⟨fun v => v = .bool true, fun _ _ _ _ => True⟩), (33, ⟨fun v => ∃ a k, v = .agg #[.int .i64 3, .int .i64 0, .int .i64 0, .string ⟨#[]⟩, .slice a ma.length k], fun v _ _ w' => ∃ a k, v = .agg #[.int .i64 3, .int .i64 0, .int .i64 0, .string ⟨#[]⟩, .slice a ma.length k] ∧ PRd w' (.slice a ma.length k) ma⟩), (35, ⟨fun v => v = .bool true, fun _ _ _ _ => True⟩), (41, ⟨fun v => v = .bool true, fun _ _ _ _ => True⟩)] (by kernel_rfl) ?_ ?_ ?_
                        · intro x hx
                          simp only [List.mem_cons, List.not_mem_nil, or_false] at hx
                          rcases hx with rfl | rfl | rfl | rfl | rfl | rfl | rfl | rfl | rfl | rfl
                          · exact ⟨_, rfl⟩
                          · exact ⟨_, none, 0, rfl⟩
                          · exact ⟨_, rfl⟩
                          · exact ⟨_, none, 0, rfl⟩
                          · exact ⟨_, rfl⟩
                          · exact ⟨_, none, 0, rfl⟩
                          · exact ⟨_, rfl⟩
                          · exact ⟨_, none, 0, rfl⟩
                          · exact ⟨_, rfl⟩
                          · exact ⟨_, rfl⟩
                        · intro x hx v lo hi w w' h hb
                          simp only [List.mem_cons, List.not_mem_nil, or_false] at hx
                          rcases hx with rfl | rfl | rfl | rfl | rfl | rfl | rfl | rfl | rfl | rfl
                          · exact trivial
                          · obtain ⟨a, k, rfl, ho⟩ := h
                            exact ⟨a, k, rfl, ho.later hb⟩
                          · exact trivial
                          · obtain ⟨a, k, rfl, ho⟩ := h
                            exact ⟨a, k, rfl, ho.later hb⟩
                          · exact trivial
                          · obtain ⟨a, k, rfl, ho⟩ := h
                            exact ⟨a, k, rfl, ho.later hb⟩
                          · exact trivial
                          · obtain ⟨a, k, rfl, ho⟩ := h
                            exact ⟨a, k, rfl, ho.later hb⟩
                          · exact trivial
                          · exact trivial
                        · intro lo hi
                          have kc0 := cell_regrown c0
                          have kc1 := cell_regrown c1
                          have kc2 := cell_regrown c2
                          have kc3 := cell_regrown c3
                          have kc4 := cell_regrown c4
                          have kzz0 := cell_regrown zz0
                          have kzz1 := cell_regrown zz1
                          have ky0 := cell_regrown y0
                          have ky1 := cell_regrown y1
                          have kd0 := cell_regrown d0
                          have kd1 := cell_regrown d1
                          have kq0 := cell_regrown q0
                          have kq1 := cell_regrown q1
                          have kr0 := cell_regrown r0
                          have kr1 := cell_regrown r1
                          have kr2 := cell_regrown r2
                          have kr3 := cell_regrown r3
                          have kr4 := cell_regrown r4
                          have ks0 := cell_regrown s0
                          have ks1 := cell_regrown s1
                          have ks2 := cell_regrown s2
                          have ks3 := cell_regrown s3
                          have ks4 := cell_regrown s4
                          have kt0 := cell_regrown t0
                          have kt1 := cell_regrown t1
                          have kt2 := cell_regrown t2
                          have kt3 := cell_regrown t3
                          have kt4 := cell_regrown t4
                          refine flowW_call rfl rfl ?_ ?_
                          · intro W hW hF K hK
                            clear kc0 kc1 kc2 kc3 kc4 kzz0 kzz1 ky0 ky1 kd0 kd1 kq0 kq1 kr0 kr1 kr2 kr3 kr4 ks0 ks1 ks2 ks3 ks4 kt0 kt1 kt2 kt3 kt4
                            go_wp2_with fail
                            refine (alive_any _).mono ?_
                            rintro e wq ⟨rfl, hbq⟩
                            go_wp2_with fail
                            exact hK _ _ rfl trivial hbq
                          rintro v rfl K hK
                          go_simp
                          refine hK _ ?_
                          clear hK K
                          refine flowW_plain rfl ?_
                          go_big_quiet_step (fail)
                          refine wpQuiet_nil ?_
                          refine flowW_plain rfl ?_
                          go_big_quiet_step (fail)
                          refine wpQuiet_nil ?_
                          refine flowW_plain rfl ?_
                          go_big_quiet_step (fail)
                          refine wpQuiet_nil ?_
                          refine flowW_plain rfl ?_
                          go_big_quiet_step (fail)
                          refine wpQuiet_nil ?_
                          refine flowW_plain rfl ?_
                          go_big_quiet_step (fail)
                          refine wpQuiet_nil ?_
                          refine flowW_call rfl rfl ?_ ?_
                          · intro W hW hF K hK
                            clear kc0 kc1 kc2 kc3 kc4 kzz0 kzz1 ky0 ky1 kd0 kd1 kq0 kq1 kr0 kr1 kr2 kr3 kr4 ks0 ks1 ks2 ks3 ks4 kt0 kt1 kt2 kt3 kt4
                            go_wp2_with fail
                            refine (join_p sx sy (P_r.out.later (below_then HB.out hW)) (P_s.out.later (below_then HB.out hW)) (HX2.out.later (below_then HB.out hW)) (HY2.out.later (below_then HB.out hW)) (by omega) (by omega) HJ1.out).mono ?_
                            rintro e wq ⟨a, k, rfl, ho, hbq⟩
                            go_wp2_with fail
                            exact hK _ _ ⟨a, k, rfl⟩ ⟨a, k, rfl, ho⟩ hbq
                          rintro v ⟨a6, k6, rfl⟩ K hK
                          go_simp
                          refine hK _ ?_
                          clear hK K
                          refine flowW_plain rfl ?_
                          go_big_quiet_step (fail)
                          refine wpQuiet_nil ?_
                          refine flowW_call rfl rfl ?_ ?_
                          · intro W hW hF K hK
                            clear kc0 kc1 kc2 kc3 kc4 kzz0 kzz1 ky0 ky1 kd0 kd1 kq0 kq1 kr0 kr1 kr2 kr3 kr4 ks0 ks1 ks2 ks3 ks4 kt0 kt1 kt2 kt3 kt4
                            obtain ⟨_, _, he6, h6⟩ := hF 6 rfl
                            cases he6
                            go_wp2_with fail
                            refine (same_p mc h6 (P_t.out.later (below_then HB.out hW)) (by omega)).mono ?_
                            rintro e wq ⟨rfl, hbq⟩
                            go_wp2_with fail
                            exact hK _ _ rfl trivial hbq
                          rintro v rfl K hK
                          go_simp
                          refine hK _ ?_
                          clear hK K
                          refine flowW_plain rfl ?_
                          go_big_quiet_step (fail)
                          refine wpQuiet_nil ?_
                          refine flowW_plain rfl ?_
                          go_big_quiet_step (fail)
                          refine wpQuiet_nil ?_
                          refine flowW_plain rfl ?_
                          go_big_quiet_step (fail)
                          refine wpQuiet_nil ?_
                          refine flowW_plain rfl ?_
                          go_big_quiet_step (fail)
                          refine wpQuiet_nil ?_
                          refine flowW_plain rfl ?_
                          go_big_quiet_step (fail)
                          refine wpQuiet_nil ?_
                          refine flowW_plain rfl ?_
                          go_big_quiet_step (fail)
                          refine wpQuiet_nil ?_
                          refine flowW_call rfl rfl ?_ ?_
                          · intro W hW hF K hK
                            clear kc0 kc1 kc2 kc3 kc4 kzz0 kzz1 ky0 ky1 kd0 kd1 kq0 kq1 kr0 kr1 kr2 kr3 kr4 ks0 ks1 ks2 ks3 ks4 kt0 kt1 kt2 kt3 kt4
                            go_wp2_with fail
                            refine (join_p sy sx (P_s.out.later (below_then HB.out hW)) (P_r.out.later (below_then HB.out hW)) (HY2.out.later (below_then HB.out hW)) (HX2.out.later (below_then HB.out hW)) (by omega) (by omega) HJ2.out).mono ?_
                            rintro e wq ⟨a, k, rfl, ho, hbq⟩
                            go_wp2_with fail
                            exact hK _ _ ⟨a, k, rfl⟩ ⟨a, k, rfl, ho⟩ hbq
                          rintro v ⟨a15, k15, rfl⟩ K hK
                          go_simp
                          refine hK _ ?_
                          clear hK K
                          refine flowW_plain rfl ?_
                          go_big_quiet_step (fail)
                          refine wpQuiet_nil ?_
                          refine flowW_call rfl rfl ?_ ?_
                          · intro W hW hF K hK
                            clear kc0 kc1 kc2 kc3 kc4 kzz0 kzz1 ky0 ky1 kd0 kd1 kq0 kq1 kr0 kr1 kr2 kr3 kr4 ks0 ks1 ks2 ks3 ks4 kt0 kt1 kt2 kt3 kt4
                            obtain ⟨_, _, he15, h15⟩ := hF 15 rfl
                            cases he15
                            go_wp2_with fail
                            refine (same_p mc h15 (P_t.out.later (below_then HB.out hW)) (by omega)).mono ?_
                            rintro e wq ⟨rfl, hbq⟩
                            go_wp2_with fail
                            exact hK _ _ rfl trivial hbq
                          rintro v rfl K hK
                          go_simp
                          refine hK _ ?_
                          clear hK K
                          refine flowW_plain rfl ?_
                          go_big_quiet_step (fail)
                          refine wpQuiet_nil ?_
                          refine flowW_plain rfl ?_
                          go_big_quiet_step (fail)
                          refine wpQuiet_nil ?_
                          refine flowW_plain rfl ?_
                          go_big_quiet_step (fail)
                          refine wpQuiet_nil ?_
                          refine flowW_plain rfl ?_
                          go_big_quiet_step (fail)
                          refine wpQuiet_nil ?_
                          refine flowW_plain rfl ?_
                          go_big_quiet_step (fail)
                          refine wpQuiet_nil ?_
                          refine flowW_plain rfl ?_
                          go_big_quiet_step (fail)
                          refine wpQuiet_nil ?_
                          refine flowW_call rfl rfl ?_ ?_
                          · intro W hW hF K hK
                            clear kc0 kc1 kc2 kc3 kc4 kzz0 kzz1 ky0 ky1 kd0 kd1 kq0 kq1 kr0 kr1 kr2 kr3 kr4 ks0 ks1 ks2 ks3 ks4 kt0 kt1 kt2 kt3 kt4
                            go_wp2_with fail
                            refine (put_o (P_s.out.later (below_then HB.out hW)) (by omega) HJ5.out).mono ?_
                            rintro e wq ⟨a, k, rfl, ho, hbq⟩
                            go_wp2_with fail
                            exact hK _ _ ⟨a, k, rfl⟩ ⟨a, k, rfl, Rd.of_own ho⟩ hbq
                          rintro v ⟨a24, k24, rfl⟩ K hK
                          go_simp
                          refine hK _ ?_
                          clear hK K
                          refine flowW_plain rfl ?_
                          go_big_quiet_step (fail)
                          refine wpQuiet_nil ?_
                          refine flowW_call rfl rfl ?_ ?_
                          · intro W hW hF K hK
                            clear kc0 kc1 kc2 kc3 kc4 kzz0 kzz1 ky0 ky1 kd0 kd1 kq0 kq1 kr0 kr1 kr2 kr3 kr4 ks0 ks1 ks2 ks3 ks4 kt0 kt1 kt2 kt3 kt4
                            obtain ⟨_, _, he24, h24⟩ := hF 24 rfl
                            cases he24
                            go_wp2_with fail
                            refine (same_p mc h24 (P_t.out.later (below_then HB.out hW)) (by omega)).mono ?_
                            rintro e wq ⟨rfl, hbq⟩
                            go_wp2_with fail
                            exact hK _ _ rfl trivial hbq
                          rintro v rfl K hK
                          go_simp
                          refine hK _ ?_
                          clear hK K
                          refine flowW_plain rfl ?_
                          go_big_quiet_step (fail)
                          refine wpQuiet_nil ?_
                          refine flowW_plain rfl ?_
                          go_big_quiet_step (fail)
                          refine wpQuiet_nil ?_
                          refine flowW_plain rfl ?_
                          go_big_quiet_step (fail)
                          refine wpQuiet_nil ?_
                          refine flowW_plain rfl ?_
                          go_big_quiet_step (fail)
                          refine wpQuiet_nil ?_
                          refine flowW_plain rfl ?_
                          go_big_quiet_step (fail)
                          refine wpQuiet_nil ?_
                          refine flowW_plain rfl ?_
                          go_big_quiet_step (fail)
                          refine wpQuiet_nil ?_
                          refine flowW_call rfl rfl ?_ ?_
                          · intro W hW hF K hK
                            clear kc0 kc1 kc2 kc3 kc4 kzz0 kzz1 ky0 ky1 kd0 kd1 kq0 kq1 kr0 kr1 kr2 kr3 kr4 ks0 ks1 ks2 ks3 ks4 kt0 kt1 kt2 kt3 kt4
                            go_wp2_with fail
                            refine (join_p sx sx (P_r.out.later (below_then HB.out hW)) (P_r.out.later (below_then HB.out hW)) (HX2.out.later (below_then HB.out hW)) (HX2.out.later (below_then HB.out hW)) (by omega) (by omega) HJ3.out).mono ?_
                            rintro e wq ⟨a, k, rfl, ho, hbq⟩
                            go_wp2_with fail
                            exact hK _ _ ⟨a, k, rfl⟩ ⟨a, k, rfl, ho⟩ hbq
                          rintro v ⟨a33, k33, rfl⟩ K hK
                          go_simp
                          refine hK _ ?_
                          clear hK K
                          refine flowW_plain rfl ?_
                          go_big_quiet_step (fail)
                          refine wpQuiet_nil ?_
                          refine flowW_call rfl rfl ?_ ?_
                          · intro W hW hF K hK
                            clear kc0 kc1 kc2 kc3 kc4 kzz0 kzz1 ky0 ky1 kd0 kd1 kq0 kq1 kr0 kr1 kr2 kr3 kr4 ks0 ks1 ks2 ks3 ks4 kt0 kt1 kt2 kt3 kt4
                            obtain ⟨_, _, he33, h33⟩ := hF 33 rfl
                            cases he33
                            go_wp2_with fail
                            refine (same_p ma h33 (P_r.out.later (below_then HB.out hW)) (by omega)).mono ?_
                            rintro e wq ⟨rfl, hbq⟩
                            go_wp2_with fail
                            exact hK _ _ rfl trivial hbq
                          rintro v rfl K hK
                          go_simp
                          refine hK _ ?_
                          clear hK K
                          refine flowW_plain rfl ?_
                          go_big_quiet_step (fail)
                          refine wpQuiet_nil ?_
                          refine flowW_plain rfl ?_
                          go_big_quiet_step (fail)
                          refine wpQuiet_nil ?_
                          refine flowW_plain rfl ?_
                          go_big_quiet_step (fail)
                          refine wpQuiet_nil ?_
                          refine flowW_plain rfl ?_
                          go_big_quiet_step (fail)
                          refine wpQuiet_nil ?_
                          refine flowW_plain rfl ?_
                          go_big_quiet_step (fail)
                          refine wpQuiet_nil ?_
                          refine flowW_call rfl rfl ?_ ?_
                          · intro W hW hF K hK
                            clear kc0 kc1 kc2 kc3 kc4 kzz0 kzz1 ky0 ky1 kd0 kd1 kq0 kq1 kr0 kr1 kr2 kr3 kr4 ks0 ks1 ks2 ks3 ks4 kt0 kt1 kt2 kt3 kt4
                            go_wp2_with fail
                            refine (hasN_b true HHN.out (P_t.out.later (below_then HB.out hW)) (by omega)).mono ?_
                            rintro e wq ⟨rfl, hbq⟩
                            go_wp2_with fail
                            exact hK _ _ rfl trivial hbq
                          rintro v rfl K hK
                          go_simp
                          refine hK _ ?_
                          clear hK K
                          refine flowW_plain rfl ?_
                          go_big_quiet_step (fail)
                          refine wpQuiet_nil ?_
                          refine flowW_plain rfl ?_
                          go_big_quiet_step (fail)
                          refine wpQuiet_nil ?_
                          refine flowW_end fun wz hwz hF hD => ?_
                          clear kc0 kc1 kc2 kc3 kc4 kzz0 kzz1 ky0 ky1 kd0 kd1 kq0 kq1 kr0 kr1 kr2 kr3 kr4 ks0 ks1 ks2 ks3 ks4 kt0 kt1 kt2 kt3 kt4
                          simp only [List.drop_succ_cons, List.drop_zero]
                          replace HB := Lib.hid (below_then HB.out hwz)
                          clear hwz hF hD c0 c1 c2 c3 c4 zz0 zz1 y0 y1 d0 d1 q0 q1 r0 r1 r2 r3 r4 s0 s1 s2 s3 s4 t0 t1 t2 t3 t4
                          have c0 := cell_of_box (bx_later HB.out B_c.out) 0 rfl
                          have c1 := cell_of_box (bx_later HB.out B_c.out) 1 rfl
                          have c2 := cell_of_box (bx_later HB.out B_c.out) 2 rfl
                          have c3 := cell_of_box (bx_later HB.out B_c.out) 3 rfl
                          have c4 := cell_of_box (bx_later HB.out B_c.out) 4 rfl
                          have zz0 := cell_of_box (bx_later HB.out B_zz.out) 0 rfl
                          have zz1 := cell_of_box (bx_later HB.out B_zz.out) 1 rfl
                          have y0 := cell_of_box (bx_later HB.out B_y.out) 0 rfl
                          have y1 := cell_of_box (bx_later HB.out B_y.out) 1 rfl
                          have d0 := cell_of_box (bx_later HB.out B_d.out) 0 rfl
                          have d1 := cell_of_box (bx_later HB.out B_d.out) 1 rfl
                          have q0 := cell_of_box (bx_later HB.out B_q.out) 0 rfl
                          have q1 := cell_of_box (bx_later HB.out B_q.out) 1 rfl
                          have r0 := cell_of_box (bx_later HB.out B_r.out) 0 rfl
                          have r1 := cell_of_box (bx_later HB.out B_r.out) 1 rfl
                          have r2 := cell_of_box (bx_later HB.out B_r.out) 2 rfl
                          have r3 := cell_of_box (bx_later HB.out B_r.out) 3 rfl
                          have r4 := cell_of_box (bx_later HB.out B_r.out) 4 rfl
                          have s0 := cell_of_box (bx_later HB.out B_s.out) 0 rfl
                          have s1 := cell_of_box (bx_later HB.out B_s.out) 1 rfl
                          have s2 := cell_of_box (bx_later HB.out B_s.out) 2 rfl
                          have s3 := cell_of_box (bx_later HB.out B_s.out) 3 rfl
                          have s4 := cell_of_box (bx_later HB.out B_s.out) 4 rfl
                          have t0 := cell_of_box (bx_later HB.out B_t.out) 0 rfl
                          have t1 := cell_of_box (bx_later HB.out B_t.out) 1 rfl
                          have t2 := cell_of_box (bx_later HB.out B_t.out) 2 rfl
                          have t3 := cell_of_box (bx_later HB.out B_t.out) 3 rfl
                          have t4 := cell_of_box (bx_later HB.out B_t.out) 4 rfl
                          go_wp2_with fail
                          go_ret
                          exact ⟨by first | rfl | exact ret_bool (by simp), below_then HB1.out HB.out⟩

set_option maxRecDepth 100000 in
theorem lifted (os : Os) (started : os.Started) (H : Type) (enc : TypeId × Value → H) :
    ReturnsInHanded {} Try.checked os 8 .any (Rows.bagMeetsSpec.pre6 enc Try.prog Try.f8 Rows.bagMeetsRow.domain false) (Rows.bagMeetsSpec.post enc Try.prog Try.f8 false true false false) := by
  refine returnsInHanded_of_change_sized (C := Try.checked) ownKnob_none started (by kernel_rfl) Try.func8
    (ChangeSpec.witness6 (enc := enc) (C := Try.checked) false ⟨#[], #[.agg #[.int .i64 0, .int .i64 0, .int .i64 0, .string ⟨#[]⟩, .slice none 0 0], .agg #[.int .i64 0, .int .i64 0], .agg #[.slice none 0 0, .slice none 0 0]], []⟩ 8 (by kernel_rfl) (by kernel_rfl) (by kernel_rfl) (by kernel_rfl)) ?_
  intro W base args ds gs before hval0 hW hcnd hsz0 _
  have hval : ∀ (j : Nat) t v, Try.f8.params[j]? = some t → args[j]? = some v → Value.okWide Try.prog W .any base t v := hval0
  have hW' := hW
  obtain ⟨p, q, hA0, hV, rfl, hfz, hnd⟩ := hW
  have hA : DataW.TrodAll enc Try.prog W 0 (fun _ => true) true Try.f8.params.toList args.toList ds p := hA0
  have hsz : (DataW.weightsEach Try.prog (Try.f8.params.toList ++ Rows.bagMeetsSpec.plain.varTypes Try.prog) (ds ++ gs)).all (· ≤ reachBytes) = true := hsz0
  rw [Try.params8] at hA hval hsz
  obtain ⟨v0, vs0, d0, ds0, p0, q0, hargs, rfl, rfl, h0, r0r⟩ := trodAll_cons hA
  obtain ⟨v1, vs1, d1, ds1, p1, q1, rfl, rfl, rfl, h1, r1r⟩ := trodAll_cons r0r
  obtain ⟨v2, vs2, d2, ds2, p2, q2, rfl, rfl, rfl, h2, r2r⟩ := trodAll_cons r1r
  obtain ⟨rfl, rfl, rfl⟩ := trodAll_nil r2r
  obtain rfl : args = #[v0, v1, v2] := by cases args; simp_all
  obtain ⟨rfl, rfl⟩ := trodVars_none hV
  have g0 := sized_at hsz (j := 0) rfl rfl
  have g1 := sized_at hsz (j := 1) rfl rfl
  have g2 := sized_at hsz (j := 2) rfl rfl
  obtain ⟨y0_0, y0_1, y0_2, y0_3, rfl, f0_0⟩ := open_cell (hval 0 26 v0 rfl rfl) h0
  obtain ⟨y1_0, y1_1, rfl⟩ := open_int2 (hval 1 35 v1 rfl rfl) h1
  obtain ⟨y2_0, y2_1, y2_2, y2_3, rfl, f2_0, f2_1⟩ := open_vec2 (hval 2 29 v2 rfl rfl) h2
  refine (walk y0_0 y0_1 y0_2 y0_3 y1_0 y1_1 y2_0 y2_1 y2_2 y2_3 W f0_0 f2_0 f2_1).mono fun e W' ⟨he, hg⟩ => ⟨_, he, law_post laidOut (by kernel_rfl) rfl Try.underlying4 rfl rfl hW' hg⟩

theorem over : Rows.bagMeetsRow.holds Try.pinned (OpenSpec.ofChange Rows.bagMeetsSpec) :=
  OpenClaim.holds_of_wide 8 Try.f8 rfl rfl rfl rfl rfl rfl rfl ⟨rfl, rfl, rfl, rfl, rfl⟩ rfl rfl rfl rfl rfl (by kernel_rfl) Try.func8 (by kernel_rfl)
    (of_decide_eq_true (by kernel_rfl)) (by unfold Func.isWrapper; first | (rw [if_pos (by decide +kernel)]; kernel_rfl) | (rw [if_neg (by decide +kernel)]; exact ⟨rfl, rfl⟩))
    (fun os started H enc _ => lifted os started H enc)

/-- THE STATEMENT. -/
theorem proved : Rows.BagMeetsSaid :=
  over
#print axioms proved
end Go.Proofs.Ytnpciogpegmejaa.bagMeets
