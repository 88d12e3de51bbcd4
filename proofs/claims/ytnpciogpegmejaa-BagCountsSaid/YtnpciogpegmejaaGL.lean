/-
  Layer 9 (bag): Join. (printed by tools/gen_gl.py)
-/
import Derived.Test.YtnpciogpegmejaaGK
import Derived.Test.YtnpciogpegmejaaGS
namespace Go.Proofs.Ytnpciogpegmejaa
open Go.RowKit Go.Sort Go.Shelf Go.BigFrame

set_option maxRecDepth 100000 in
set_option maxHeartbeats 1000000 in
theorem join1_any (x : Prt) (bl : List Prt) (kb : List Int) (q r : Nat) (w : World) (h : PartsAt w q bl) (hv : VecAt w r kb) (hn : bl.length ≤ 1000000) :
    Calls Try.prog 34 #[x.agg, .pointer (some ⟨q, 0, none⟩), .pointer (some ⟨r, 0, none⟩)] w fun e w' => e = .returned (.bool (keepQ bl kb x)) ∧ Below w.heap.size w w' := by
  obtain ⟨bo, bc', h0, h1⟩ := h
  obtain ⟨ao, n, c, h2, h3⟩ := hv
  have hb := below_alloc w (.cells #[.int .i64 x.v.k, .int .i64 x.v.n, .string x.v.s, .int .i64 x.d.dev, .int .i64 x.d.seq, .int .i64 x.at_, .int .i64 x.tm, .int .i64 x.aft.dev, .int .i64 x.aft.seq, .int .i64 x.aat, .bool x.gone] 43)
  have g0 := cell_later hb h0
  have g2 := cell_later hb h2
  have d0 : (w.alloc (.cells #[.int .i64 x.v.k, .int .i64 x.v.n, .string x.v.s, .int .i64 x.d.dev, .int .i64 x.d.seq, .int .i64 x.at_, .int .i64 x.tm, .int .i64 x.aft.dev, .int .i64 x.aft.seq, .int .i64 x.aat, .bool x.gone] 43)).cell? ⟨w.heap.size, 3, none⟩ = some (.int .i64 x.d.dev) := by simp [go_sem]
  have d1 : (w.alloc (.cells #[.int .i64 x.v.k, .int .i64 x.v.n, .string x.v.s, .int .i64 x.d.dev, .int .i64 x.d.seq, .int .i64 x.at_, .int .i64 x.tm, .int .i64 x.aft.dev, .int .i64 x.aft.seq, .int .i64 x.aat, .bool x.gone] 43)).cell? ⟨w.heap.size, 4, none⟩ = some (.int .i64 x.d.seq) := by simp [go_sem]
  have HB := Lib.hid hb
  have HP := Lib.hid (h1.later hb)
  have HV := Lib.hid (h3.later hb)
  clear h0 h1 h2 h3 hb
  cases hh : inQ bl x
  all_goals
    have HH := Lib.hid hh
    have HK : Hid (keepQ bl kb x = (inQ bl x || !hasV kb x.d)) := by show _ = _; rfl
    clear hh
    go_enter Try.func34, Try.ntmps34
    go_wp2_with fail
    refine (bhas_any _ bl x _ HP.out hn).mono ?_
    rintro e w1 ⟨rfl, hb1⟩
    rw [HH.out]
    replace g2 := cell_later hb1 g2
    replace d0 := cell_later hb1 d0
    replace d1 := cell_later hb1 d1
    have HB1 := Lib.hid (below_then HB.out hb1)
    have HV1 := Lib.hid (HV.out.later hb1)
    clear hb1
    go_wp2_with fail
    first
      | (go_ret; exact ⟨ret_bool (by rw [HK.out, HH.out]; simp), HB1.out⟩)
      | (refine (hasV_any _ kb x.d _ HV1.out).mono ?_
         rintro e w2 ⟨rfl, hb2⟩
         have HB2 := Lib.hid (below_then HB1.out hb2)
         clear hb2
         go_wp2_with fail
         go_ret
         exact ⟨ret_bool (by rw [HK.out, HH.out]; simp), HB2.out⟩)
theorem join1_test (w : World) (bl : List Prt) (kb : List Int) (q r : Nat) (h : PartsAt w q bl) (hv : VecAt w r kb) (hn : bl.length ≤ 1000000) : TestP w 34 #[.pointer (some ⟨q, 0, none⟩), .pointer (some ⟨r, 0, none⟩)] (keepQ bl kb) :=
  ⟨enters_of Try.func34 (by kernel_rfl) rfl, fun x W hb => join1_any x bl kb q r W (h.later hb) (hv.later hb) hn⟩

set_option maxRecDepth 100000 in
set_option maxHeartbeats 1000000 in
theorem join2_any (x : Prt) (bl : List Prt) (kb : List Int) (q r : Nat) (w : World) (h : PartsAt w q bl) (hv : VecAt w r kb) (hn : bl.length ≤ 1000000) :
    Calls Try.prog 38 #[x.agg, .pointer (some ⟨q, 0, none⟩), .pointer (some ⟨r, 0, none⟩)] w fun e w' => e = .returned (.bool (keepQ2 bl kb x)) ∧ Below w.heap.size w w' := by
  obtain ⟨bo, bc', h0, h1⟩ := h
  obtain ⟨ao, n, c, h2, h3⟩ := hv
  have hb := below_alloc w (.cells #[.int .i64 x.v.k, .int .i64 x.v.n, .string x.v.s, .int .i64 x.d.dev, .int .i64 x.d.seq, .int .i64 x.at_, .int .i64 x.tm, .int .i64 x.aft.dev, .int .i64 x.aft.seq, .int .i64 x.aat, .bool x.gone] 43)
  have g0 := cell_later hb h0
  have g2 := cell_later hb h2
  have d0 : (w.alloc (.cells #[.int .i64 x.v.k, .int .i64 x.v.n, .string x.v.s, .int .i64 x.d.dev, .int .i64 x.d.seq, .int .i64 x.at_, .int .i64 x.tm, .int .i64 x.aft.dev, .int .i64 x.aft.seq, .int .i64 x.aat, .bool x.gone] 43)).cell? ⟨w.heap.size, 3, none⟩ = some (.int .i64 x.d.dev) := by simp [go_sem]
  have d1 : (w.alloc (.cells #[.int .i64 x.v.k, .int .i64 x.v.n, .string x.v.s, .int .i64 x.d.dev, .int .i64 x.d.seq, .int .i64 x.at_, .int .i64 x.tm, .int .i64 x.aft.dev, .int .i64 x.aft.seq, .int .i64 x.aat, .bool x.gone] 43)).cell? ⟨w.heap.size, 4, none⟩ = some (.int .i64 x.d.seq) := by simp [go_sem]
  have HB := Lib.hid hb
  have HP := Lib.hid (h1.later hb)
  have HV := Lib.hid (h3.later hb)
  clear h0 h1 h2 h3 hb
  cases hh : inQ bl x
  all_goals
    have HH := Lib.hid hh
    have HK : Hid (keepQ2 bl kb x = (!inQ bl x && !hasV kb x.d)) := by show _ = _; rfl
    clear hh
    go_enter Try.func38, Try.ntmps38
    go_wp2_with fail
    refine (bhas_any _ bl x _ HP.out hn).mono ?_
    rintro e w1 ⟨rfl, hb1⟩
    rw [HH.out]
    replace g2 := cell_later hb1 g2
    replace d0 := cell_later hb1 d0
    replace d1 := cell_later hb1 d1
    have HB1 := Lib.hid (below_then HB.out hb1)
    have HV1 := Lib.hid (HV.out.later hb1)
    clear hb1
    go_wp2_with fail
    first
      | (go_ret; exact ⟨ret_bool (by rw [HK.out, HH.out]; simp), HB1.out⟩)
      | (refine (hasV_any _ kb x.d _ HV1.out).mono ?_
         rintro e w2 ⟨rfl, hb2⟩
         have HB2 := Lib.hid (below_then HB1.out hb2)
         clear hb2
         go_wp2_with fail
         go_ret
         exact ⟨ret_bool (by rw [HK.out, HH.out]; simp), HB2.out⟩)
theorem join2_test (w : World) (bl : List Prt) (kb : List Int) (q r : Nat) (h : PartsAt w q bl) (hv : VecAt w r kb) (hn : bl.length ≤ 1000000) : TestP w 38 #[.pointer (some ⟨q, 0, none⟩), .pointer (some ⟨r, 0, none⟩)] (keepQ2 bl kb) :=
  ⟨enters_of Try.func38 (by kernel_rfl) rfl, fun x W hb => join2_any x bl kb q r W (h.later hb) (hv.later hb) hn⟩

set_option maxRecDepth 100000 in
set_option maxHeartbeats 4000000 in
theorem join3_any (x y : Prt) (w : World) : Calls Try.prog 40 #[x.agg, y.agg] w fun e w' => e = .returned (.int .i64 (cmpQ x y)) ∧ Below w.heap.size w w' := by
  have hq : cmpQ x y = cmpPl x.v.n x.d y.v.n y.d := rfl
  obtain ⟨⟨xk, xn, xs⟩, ⟨xd, xq⟩, xat, xtm, ⟨xfd, xfq⟩, xaa, xg⟩ := x
  obtain ⟨⟨yk, yn, ys⟩, ⟨yd, yq⟩, yat, ytm, ⟨yfd, yfq⟩, yaa, yg⟩ := y
  obtain ⟨w1, hw1⟩ : ∃ w1, (w.alloc (.cells #[.int .i64 xk, .int .i64 xn, .string xs, .int .i64 xd, .int .i64 xq, .int .i64 xat, .int .i64 xtm, .int .i64 xfd, .int .i64 xfq, .int .i64 xaa, .bool xg] 43)).alloc (.cells #[.int .i64 yk, .int .i64 yn, .string ys, .int .i64 yd, .int .i64 yq, .int .i64 yat, .int .i64 ytm, .int .i64 yfd, .int .i64 yfq, .int .i64 yaa, .bool yg] 43) = w1 := ⟨_, rfl⟩
  have hb1 : Below w.heap.size w w1 := by rw [← hw1]; exact below_alloc_then (below_alloc _ _)
  have b0 : Bx w1 w.heap.size #[.int .i64 xk, .int .i64 xn, .string xs, .int .i64 xd, .int .i64 xq, .int .i64 xat, .int .i64 xtm, .int .i64 xfd, .int .i64 xfq, .int .i64 xaa, .bool xg] 43 := by rw [← hw1]; exact bx_later (below_alloc _ _) (bx_new rfl)
  have b1 : Bx w1 (w.heap.size + 1) #[.int .i64 yk, .int .i64 yn, .string ys, .int .i64 yd, .int .i64 yq, .int .i64 yat, .int .i64 ytm, .int .i64 yfd, .int .i64 yfq, .int .i64 yaa, .bool yg] 43 := by rw [← hw1]; exact bx_new (by simp)
  have c0 := cell_of_box b0 0 rfl
  have c1 := cell_of_box b0 1 rfl
  have c2 := cell_of_box b0 2 rfl
  have c3 := cell_of_box b0 3 rfl
  have c4 := cell_of_box b0 4 rfl
  have c5 := cell_of_box b0 5 rfl
  have c6 := cell_of_box b0 6 rfl
  have c7 := cell_of_box b0 7 rfl
  have c8 := cell_of_box b0 8 rfl
  have c9 := cell_of_box b0 9 rfl
  have c10 := cell_of_box b0 10 rfl
  have e0 := cell_of_box b1 0 rfl
  have e1 := cell_of_box b1 1 rfl
  have e2 := cell_of_box b1 2 rfl
  have e3 := cell_of_box b1 3 rfl
  have e4 := cell_of_box b1 4 rfl
  have e5 := cell_of_box b1 5 rfl
  have e6 := cell_of_box b1 6 rfl
  have e7 := cell_of_box b1 7 rfl
  have e8 := cell_of_box b1 8 rfl
  have e9 := cell_of_box b1 9 rfl
  have e10 := cell_of_box b1 10 rfl
  have HW := Lib.hid hw1
  have HB := Lib.hid hb1
  have HQ := Lib.hid hq
  have cO := fun {k n : Int} {s : ByteArray} {d q a t fd fq aa : Int} {g : Bool} => of_c k n s d q a t fd fq aa g w1
  have cA : ∀ d os, Calls Try.prog 29 #[.agg #[.int .i64 xn, .int .i64 xd, .int .i64 xq], .agg #[.int .i64 yn, .int .i64 yd, .int .i64 yq]] (grow (redrawn w1 d) os) fun e w'' => e = .returned (.int .i64 (cmpPl xn ⟨xd, xq⟩ yn ⟨yd, yq⟩)) ∧ ∃ p : Regrown, w'' = grow (redrawn w1 p.d) p.os := fun d os => Calls.regrown_of ((ahead_any xn yn ⟨xd, xq⟩ ⟨yd, yq⟩ _))
  obtain ⟨cr, hcr⟩ : ∃ cr, cmpPl xn ⟨xd, xq⟩ yn ⟨yd, yq⟩ = cr := ⟨_, rfl⟩
  rw [hcr] at cA
  have HCR := Lib.hid hcr
  clear hw1 hb1 b0 b1 hq hcr
  go_enter Try.func40, Try.ntmps40
  go_wp2_with fail
  rw [HW.out]
  have kc0 := cell_regrown c0
  have kc1 := cell_regrown c1
  have kc2 := cell_regrown c2
  have kc3 := cell_regrown c3
  have kc4 := cell_regrown c4
  have kc5 := cell_regrown c5
  have kc6 := cell_regrown c6
  have kc7 := cell_regrown c7
  have kc8 := cell_regrown c8
  have kc9 := cell_regrown c9
  have kc10 := cell_regrown c10
  have ke0 := cell_regrown e0
  have ke1 := cell_regrown e1
  have ke2 := cell_regrown e2
  have ke3 := cell_regrown e3
  have ke4 := cell_regrown e4
  have ke5 := cell_regrown e5
  have ke6 := cell_regrown e6
  have ke7 := cell_regrown e7
  have ke8 := cell_regrown e8
  have ke9 := cell_regrown e9
  have ke10 := cell_regrown e10
  refine wp_region_quiet_below (by kernel_rfl) (by kernel_rfl) ?_
  repeat (go_big_quiet_step (first | exact cO _ _ | exact cA _ _))
  refine wpQuiet_nil ?_
  intro _ hw'
  obtain ⟨⟨dq, osq⟩, hw''⟩ := hw'
  subst hw''
  clear kc0 kc1 kc2 kc3 kc4 kc5 kc6 kc7 kc8 kc9 kc10 ke0 ke1 ke2 ke3 ke4 ke5 ke6 ke7 ke8 ke9 ke10 cO cA
  have hb2 := below_regrown w1 dq osq
  generalize grow (redrawn w1 dq) osq = w2 at *
  replace c0 := cell_later hb2 c0
  replace c1 := cell_later hb2 c1
  replace c2 := cell_later hb2 c2
  replace c3 := cell_later hb2 c3
  replace c4 := cell_later hb2 c4
  replace c5 := cell_later hb2 c5
  replace c6 := cell_later hb2 c6
  replace c7 := cell_later hb2 c7
  replace c8 := cell_later hb2 c8
  replace c9 := cell_later hb2 c9
  replace c10 := cell_later hb2 c10
  replace e0 := cell_later hb2 e0
  replace e1 := cell_later hb2 e1
  replace e2 := cell_later hb2 e2
  replace e3 := cell_later hb2 e3
  replace e4 := cell_later hb2 e4
  replace e5 := cell_later hb2 e5
  replace e6 := cell_later hb2 e6
  replace e7 := cell_later hb2 e7
  replace e8 := cell_later hb2 e8
  replace e9 := cell_later hb2 e9
  replace e10 := cell_later hb2 e10
  have HB2 := Lib.hid (below_then HB.out hb2)
  clear hb2
  go_wp2_with fail
  go_ret
  exact ⟨ret_int (by rw [HQ.out]; exact HCR.out.symm), HB2.out⟩

theorem own_far2 {w : World} {B n c m : Nat} {e : TypeId} {size : Nat} {ao : Option Addr} {xs : List Value} (h : w.ownsRow B e size (.slice ao n c) m xs) : ∀ a, ao = some a → B ≤ a.block ∧ a.block < w.heap.size := own_far h
def JoinPostQ (w : World) (l : List Prt) (e : Ending) (w' : World) : Prop :=
  ∃ v', e = .returned (.agg #[.int .i64 3, .int .i64 0, .int .i64 0, .string ⟨#[]⟩, v']) ∧ PRd w' v' l ∧ Below w.heap.size w w'

set_option maxRecDepth 100000 in
set_option maxHeartbeats 8000000 in
theorem bjoin_any (k1 k2 : Int) (cv1 cv2 : Val) (va vb vk vl : Value) (l1 l2 : List Prt) (z1 z2 : List Int) (w : World) (ha : PRd w va l1) (hb : PRd w vb l2) (hk : Rd w vk z1.length (z1.map ic)) (hl : Rd w vl z2.length (z2.map ic)) (hn : l1.length ≤ 1000) (hm : l2.length ≤ 1000) :
    Calls Try.prog 13 #[.agg #[.int .i64 k1, .int .i64 cv1.k, .int .i64 cv1.n, .string cv1.s, va], .agg #[.int .i64 k2, .int .i64 cv2.k, .int .i64 cv2.n, .string cv2.s, vb], vk, vl] w (JoinPostQ w (joinQ l1 l2 z1 z2)) := by
  obtain ⟨ao1, ac1, rfl, _⟩ := id ha
  obtain ⟨ao2, ac2, rfl, _⟩ := id hb
  obtain ⟨ko1, kc1, rfl, _⟩ := id hk
  obtain ⟨ko2, kc2, rfl, _⟩ := id hl
  obtain ⟨w1, hw1⟩ : ∃ w1, ((((w.alloc (.cells #[.int .i64 k1, .int .i64 cv1.k, .int .i64 cv1.n, .string cv1.s, .slice ao1 l1.length ac1] 26)).alloc (.cells #[.int .i64 k2, .int .i64 cv2.k, .int .i64 cv2.n, .string cv2.s, .slice ao2 l2.length ac2] 26)).alloc (.cells #[.slice ko1 z1.length kc1] 28)).alloc (.cells #[.slice ko2 z2.length kc2] 28)).alloc (.cells #[.int .i64 0, .int .i64 0, .int .i64 0, .string ⟨#[]⟩, .slice none 0 0] 26) = w1 := ⟨_, rfl⟩
  have hb1 : Below w.heap.size w w1 := by rw [← hw1]; exact below_alloc_then (below_alloc_then (below_alloc_then (below_alloc_then (below_alloc _ _))))
  have hsz : w1.heap.size = w.heap.size + 5 := by rw [← hw1]; simp
  have b0 : Bx w1 w.heap.size #[.int .i64 k1, .int .i64 cv1.k, .int .i64 cv1.n, .string cv1.s, .slice ao1 l1.length ac1] 26 := by rw [← hw1]; exact bx_later (below_alloc_then (below_alloc_then (below_alloc_then (below_alloc _ _)))) (bx_new (by simp))
  have b1 : Bx w1 (w.heap.size + 1) #[.int .i64 k2, .int .i64 cv2.k, .int .i64 cv2.n, .string cv2.s, .slice ao2 l2.length ac2] 26 := by rw [← hw1]; exact bx_later (below_alloc_then (below_alloc_then (below_alloc _ _))) (bx_new (by simp))
  have b2 : Bx w1 (w.heap.size + 2) #[.slice ko1 z1.length kc1] 28 := by rw [← hw1]; exact bx_later (below_alloc_then (below_alloc _ _)) (bx_new (by simp))
  have b3 : Bx w1 (w.heap.size + 3) #[.slice ko2 z2.length kc2] 28 := by rw [← hw1]; exact bx_later (below_alloc _ _) (bx_new (by simp))
  have b4 : Bx w1 (w.heap.size + 4) #[.int .i64 0, .int .i64 0, .int .i64 0, .string ⟨#[]⟩, .slice none 0 0] 26 := by rw [← hw1]; exact bx_new (by simp)
  have pa : PartsAt w1 w.heap.size l1 := ⟨_, _, cell_of_box b0 4 rfl, ha.later hb1⟩
  have pb : PartsAt w1 (w.heap.size + 1) l2 := ⟨_, _, cell_of_box b1 4 rfl, hb.later hb1⟩
  have ua : VecAt w1 (w.heap.size + 2) z1 := ⟨_, _, _, cell_of_box b2 0 rfl, hk.later hb1⟩
  have ub : VecAt w1 (w.heap.size + 3) z2 := ⟨_, _, _, cell_of_box b3 0 rfl, hl.later hb1⟩
  have C1 := join1_test w1 l2 z2 _ _ pb ub (by omega)
  have C2 := join2_test w1 l1 z1 _ _ pa ua (by omega)
  have HA1 := Lib.hid (ha.later hb1)
  have HA2 := Lib.hid (hb.later hb1)
  have HW := Lib.hid hw1
  have HBW1 := Lib.hid hb1
  have HSZ := Lib.hid hsz
  have B1 := Lib.hid b1
  have B4 := Lib.hid b4
  have x4 := cell_of_box b0 4 rfl
  clear hw1 hb1 hsz b0 b1 b2 b3 b4 pa pb ua ub ha hb hk hl
  obtain ⟨w2, hw2⟩ : ∃ w2, (w1.alloc (.cells #[.slice ao1 l1.length ac1] 24)).alloc (.cells #[.func (.func 34) #[] #[.pointer (some ⟨w.heap.size + 1, 0, none⟩), .pointer (some ⟨w.heap.size + 3, 0, none⟩)]] 69) = w2 := ⟨_, rfl⟩
  have hbw2 : Below w1.heap.size w1 w2 := by rw [← hw2]; exact below_alloc_then (below_alloc _ _)
  have q1w2 : w2.cell? ⟨w1.heap.size, 0, none⟩ = some (.slice ao1 l1.length ac1) := by
    rw [← hw2]
    exact ((Boxed.new w1 24 (.slice ao1 l1.length ac1)).alloc (.cells #[.func (.func 34) #[] #[.pointer (some ⟨w.heap.size + 1, 0, none⟩), .pointer (some ⟨w.heap.size + 3, 0, none⟩)]] 69)).cell
  have q2w2 : Boxed w2 (w1.heap.size + 1) 69 (.func (.func 34) #[] #[.pointer (some ⟨w.heap.size + 1, 0, none⟩), .pointer (some ⟨w.heap.size + 3, 0, none⟩)]) := by
    rw [← hw2]
    have := Boxed.new (w1.alloc (.cells #[.slice ao1 l1.length ac1] 24)) 69 (.func (.func 34) #[] #[.pointer (some ⟨w.heap.size + 1, 0, none⟩), .pointer (some ⟨w.heap.size + 3, 0, none⟩)])
    rw [World.size_alloc] at this
    exact this
  have hcol := collect_any (gf := 56) (lb := #[.pointer (some ⟨w1.heap.size, 0, none⟩), .pointer (some ⟨w1.heap.size + 1, 0, none⟩)]) (enters_of Try.func56 (by kernel_rfl) rfl) w1.heap.size (w1.heap.size + 1) _ (l1.filter (keepQ l2 z2)) l1.length w2
    (fun m hm' => some1_stops m hm' w1 C1 (.slice ao1 l1.length ac1) l1 w1.heap.size (w1.heap.size + 1) w2 hbw2 q1w2 q2w2 HA1.out (by omega)) hbw2.size q2w2 (by omega)
  have HCOL := Lib.hid hcol
  have HW2 := Lib.hid hw2
  have HBW2 := Lib.hid hbw2
  clear hcol hw2 hbw2 q1w2 q2w2 C1
  go_enter Try.func13, Try.ntmps13
  go_wp2_with fail
  rw [HW.out]
  refine (some_any ao1 l1.length ac1 34 #[.pointer (some ⟨w.heap.size + 1, 0, none⟩), .pointer (some ⟨w.heap.size + 3, 0, none⟩)] w1).mono ?_
  rintro e w' ⟨rfl, rfl⟩
  rw [HW2.out]
  clear x4
  go_wp2_with fail
  refine HCOL.out.mono ?_
  rintro e w3 ⟨v1, rfl, hown3, hb3⟩
  obtain ⟨a1, c1, rfl, _⟩ := Rd.of_own hown3
  obtain ⟨K, hK⟩ : ∃ K, l1.filter (keepQ l2 z2) = K := ⟨_, rfl⟩
  have hKl : K.length ≤ 1000 := by rw [← hK]; exact Nat.le_trans (List.length_filter_le _ _) hn
  rw [hK] at hown3 ⊢
  have hb13 : Below w1.heap.size w1 w3 := HBW2.out.trans hb3
  have y4 := cell_of_box (bx_later hb13 B1.out) 4 rfl
  obtain ⟨w4, hw4⟩ : ∃ w4, (w3.alloc (.cells #[.slice ao2 l2.length ac2] 24)).alloc (.cells #[.func (.func 38) #[] #[.pointer (some ⟨w.heap.size, 0, none⟩), .pointer (some ⟨w.heap.size + 2, 0, none⟩)]] 69) = w4 := ⟨_, rfl⟩
  have hbw4 : Below w3.heap.size w3 w4 := by rw [← hw4]; exact below_alloc_then (below_alloc _ _)
  have q1w4 : w4.cell? ⟨w3.heap.size, 0, none⟩ = some (.slice ao2 l2.length ac2) := by
    rw [← hw4]
    exact ((Boxed.new w3 24 (.slice ao2 l2.length ac2)).alloc (.cells #[.func (.func 38) #[] #[.pointer (some ⟨w.heap.size, 0, none⟩), .pointer (some ⟨w.heap.size + 2, 0, none⟩)]] 69)).cell
  have q2w4 : Boxed w4 (w3.heap.size + 1) 69 (.func (.func 38) #[] #[.pointer (some ⟨w.heap.size, 0, none⟩), .pointer (some ⟨w.heap.size + 2, 0, none⟩)]) := by
    rw [← hw4]
    have := Boxed.new (w3.alloc (.cells #[.slice ao2 l2.length ac2] 24)) 69 (.func (.func 38) #[] #[.pointer (some ⟨w.heap.size, 0, none⟩), .pointer (some ⟨w.heap.size + 2, 0, none⟩)])
    rw [World.size_alloc] at this
    exact this
  have happ := appendSeq_any (gf := 56) (lb := #[.pointer (some ⟨w3.heap.size, 0, none⟩), .pointer (some ⟨w3.heap.size + 1, 0, none⟩)]) (enters_of Try.func56 (by kernel_rfl) rfl) w1.heap.size (w3.heap.size + 1) _ (.slice a1 K.length c1) K (l2.filter (keepQ2 l1 z1)) l2.length w4
    (fun m hm' => some1_stops m hm' w1 C2 (.slice ao2 l2.length ac2) l2 w3.heap.size (w3.heap.size + 1) w4 (hb13.trans (hbw4.mono hb13.size)) q1w4 q2w4 HA2.out (by omega)) (own_later hown3 hbw4) (Nat.le_trans hb13.size hbw4.size) q2w4 (by omega)
  have HAPP := Lib.hid happ
  have HK := Lib.hid hK
  have HW4 := Lib.hid hw4
  have HB14 : Hid (Below w1.heap.size w1 w4) := hb13.trans (hbw4.mono hb13.size)
  clear happ hw4 hbw4 q1w4 q2w4 C2 hown3 hb3 hb13 hK HCOL
  go_wp2_with fail
  refine (some_any ao2 l2.length ac2 38 #[.pointer (some ⟨w.heap.size, 0, none⟩), .pointer (some ⟨w.heap.size + 2, 0, none⟩)] w3).mono ?_
  rintro e w' ⟨rfl, rfl⟩
  rw [HW4.out]
  clear y4
  go_wp2_with fail
  refine HAPP.out.mono ?_
  rintro e w5 ⟨v5, rfl, hown5, hb5⟩
  obtain ⟨L, hL⟩ : ∃ L, l2.filter (keepQ2 l1 z1) = L := ⟨_, rfl⟩
  have hLl : L.length ≤ 1000 := by rw [← hL]; exact Nat.le_trans (List.length_filter_le _ _) hm
  rw [hL] at hown5
  obtain ⟨M, hM⟩ : ∃ M, K ++ L = M := ⟨_, rfl⟩
  have hMl : M.length ≤ 2000 := by rw [← hM, List.length_append]; omega
  rw [hM] at hown5
  have HM := Lib.hid hM
  have hb15 : Below w1.heap.size w1 w5 := HB14.out.trans hb5
  have hst := sortQ_any swoQ 40 w1 w1.heap.size v5 M w5 hown5 hb15 (Nat.le_refl _) (by omega) (enters_of Try.func40 (by kernel_rfl) rfl) cmpQ ltC_cmpQ (fun x y W => join3_any x y W)
  obtain ⟨a4, c4, rfl, _⟩ := Rd.of_own hown5
  have HST := Lib.hid hst
  have HFAR := Lib.hid (own_far hown5)
  have HL := Lib.hid hL
  clear hst hown5 hb5 hb15 hL hM HAPP
  go_wp2_with fail
  refine HST.out.mono ?_
  rintro e w6 ⟨rfl, hr5, hb6, _⟩
  have hn5 : M.length = (isortL ltQ M).length := (isortL_length _).symm
  have hj : joinQ l1 l2 z1 z2 = isortL ltQ M := by rw [← HM.out, ← HK.out, ← HL.out]; rfl
  have b5 := bx_later hb6 B4.out
  have z0' := cell_of_box b5 0 rfl
  have f0 := frozen_of_box b5 0
  have z1' := cell_of_box b5 1 rfl
  have f1 := frozen_of_box b5 1
  have z2' := cell_of_box b5 2 rfl
  have f2 := frozen_of_box b5 2
  have z3' := cell_of_box b5 3 rfl
  have f3 := frozen_of_box b5 3
  have z4' := cell_of_box b5 4 rfl
  have f4 := frozen_of_box b5 4
  have HR5 := Lib.hid hr5
  have HBEL := Lib.hid (below_then HBW1.out hb6)
  have HJ := Lib.hid hj
  have HN5 := Lib.hid hn5
  clear hr5 hb6 b5 hj hn5 HST
  go_wp2_with fail
  refine bodyPost_ret (v := .agg #[.int .i64 3, .int .i64 0, .int .i64 0, .string ⟨#[]⟩, .slice a4 M.length c4]) (by simp [results, Try.results13, go_sem, z0', z1', z2', z3', z4']) rfl ⟨.slice a4 M.length c4, rfl, ?_, ?_⟩
  · show Rd _ _ _ _
    rw [HJ.out, ← HN5.out]
    refine Rd.but (S := fun kk => kk = w.heap.size + 4) HR5.out ?_ fun aa haa hs => by have := HFAR.out aa haa; have := HSZ.out; omega
    iterate 5 (refine But.set (S := fun kk => kk = w.heap.size + 4) ?_ (by rfl) _)
    exact But.refl _ _
  · repeat' (first | with_reducible apply Below.setCell | exact HBEL.out)
    all_goals (simp <;> omega)
end Go.Proofs.Ytnpciogpegmejaa
