/-
  Layer 9 (bag): of, ahead, has, Has; what the closures ask. (printed by tools/gen_ga.py)
-/
import Derived.Test.YtnpciogpegmejaaGP
import Derived.Test.YtnpciogpegmejaaGB
import Derived.Shelf.Abstract
namespace Go.Proofs.Ytnpciogpegmejaa
open Go.RowKit Go.Sort Go.BigFrame

abbrev plA (n : Int) (d : Dt) : Value := .agg #[.int .i64 n, .int .i64 d.dev, .int .i64 d.seq]
def cmpPl (n : Int) (d : Dt) (m : Int) (e : Dt) : Int := if cmpI n m = 0 then cmpD d e else cmpI n m
theorem cmpPl_eq (x y : Prt) : cmpPl x.v.n x.d y.v.n y.d = cmpQ x y := rfl
theorem ltC_cmpQ : ltC cmpQ = ltQ := by
  funext x y
  unfold ltC
  rw [← cmpQ_neg]

theorem of_any (x : Prt) (w : World) : Calls Try.prog 28 #[x.agg] w fun e w' => e = .returned (plA x.v.n x.d) ∧ Below w.heap.size w w' := by
  go_enter Try.func28, Try.ntmps28
  go_wp2
  exact bodyPost_ret (v := plA x.v.n x.d) (by simp [results, Try.results28, go_sem]) rfl ⟨rfl, below_alloc_then (below_alloc _ _)⟩

/-- .. as a region that draws its order asks it. -/
theorem of_c (k n : Int) (s : ByteArray) (d q a t fd fq aa : Int) (g : Bool) (w : World) (dd os) : Calls Try.prog 28 #[.agg #[.int .i64 k, .int .i64 n, .string s, .int .i64 d, .int .i64 q, .int .i64 a, .int .i64 t, .int .i64 fd, .int .i64 fq, .int .i64 aa, .bool g]] (grow (redrawn w dd) os) fun e w'' => e = .returned (.agg #[.int .i64 n, .int .i64 d, .int .i64 q]) ∧ ∃ p : Regrown, w'' = grow (redrawn w p.d) p.os :=
  Calls.regrown_of (of_any ⟨⟨k, n, s⟩, ⟨d, q⟩, a, t, ⟨fd, fq⟩, aa, g⟩ _)

theorem or_places (n m : Int) (d e : Dt) : orL [cmpI n m, cmpI d.dev e.dev, cmpI d.seq e.seq] = cmpPl n d m e := by
  unfold cmpPl orL
  split
  · rw [or_dots]
  · rfl

set_option maxRecDepth 100000 in
set_option maxHeartbeats 2000000 in
theorem ahead_any (n m : Int) (d e : Dt) (w : World) : Calls Try.prog 29 #[plA n d, plA m e] w fun e' w' => e' = .returned (.int .i64 (cmpPl n d m e)) ∧ Below w.heap.size w w' := by
  obtain ⟨dd, ds⟩ := d
  obtain ⟨ed, es⟩ := e
  obtain ⟨w1, hw1⟩ : ∃ w1, (w.alloc (.cells #[.int .i64 n, .int .i64 dd, .int .i64 ds] 59)).alloc (.cells #[.int .i64 m, .int .i64 ed, .int .i64 es] 59) = w1 := ⟨_, rfl⟩
  have hb1 : Below w.heap.size w w1 := by rw [← hw1]; exact below_alloc_then (below_alloc _ _)
  have b0 : Bx w1 w.heap.size #[.int .i64 n, .int .i64 dd, .int .i64 ds] 59 := by rw [← hw1]; exact bx_later (below_alloc _ _) (bx_new rfl)
  have b1 : Bx w1 (w.heap.size + 1) #[.int .i64 m, .int .i64 ed, .int .i64 es] 59 := by rw [← hw1]; exact bx_new (by simp)
  have x0 := cell_of_box b0 0 rfl
  have x1 := cell_of_box b0 1 rfl
  have x2 := cell_of_box b0 2 rfl
  have y0 := cell_of_box b1 0 rfl
  have y1 := cell_of_box b1 1 rfl
  have y2 := cell_of_box b1 2 rfl
  have HW := Lib.hid hw1
  have HB := Lib.hid hb1
  have HO := Lib.hid (or_places n m ⟨dd, ds⟩ ⟨ed, es⟩)
  obtain ⟨p, hp⟩ : ∃ p, cmpI n m = p := ⟨_, rfl⟩
  obtain ⟨q, hq⟩ : ∃ q, cmpI dd ed = q := ⟨_, rfl⟩
  obtain ⟨r, hr⟩ : ∃ r, cmpI ds es = r := ⟨_, rfl⟩
  have h1 := cmpInt_any n m
  have h2 := cmpInt_any dd ed
  have h3 := cmpInt_any ds es
  rw [hp] at h1
  rw [hq] at h2
  rw [hr] at h3
  have H1 := Lib.hid h1
  have H2 := Lib.hid h2
  have H3 := Lib.hid h3
  have HO2 : Hid (orL [p, q, r] = cmpPl n ⟨dd, ds⟩ m ⟨ed, es⟩) := by rw [← hp, ← hq, ← hr]; exact HO.out
  clear hw1 hb1 b0 b1 hp hq hr h1 h2 h3 HO
  go_enter Try.func29, Try.ntmps29
  go_wp2_with fail
  rw [HW.out]
  refine wp_region_flow (by kernel_rfl) 22 [(4, ⟨fun v => v = .int .i64 p, fun _ _ _ _ => True⟩), (11, ⟨fun v => v = .int .i64 q, fun _ _ _ _ => True⟩), (18, ⟨fun v => v = .int .i64 r, fun _ _ _ _ => True⟩), (19, ⟨fun v => ∃ g : Nat, v = .slice (some ⟨g, 0, none⟩) 3 3, fun v _ _ w' => ∃ g : Nat, v = .slice (some ⟨g, 0, none⟩) 3 3 ∧ Rd w' (.slice (some ⟨g, 0, none⟩) 3 3) 3 [ic p, ic q, ic r]⟩), (20, ⟨fun v => v = .int .i64 (orL [p, q, r]), fun _ _ _ _ => True⟩)] (by kernel_rfl) ?_ ?_ ?_
  · intro x hx
    simp only [List.mem_cons, List.not_mem_nil, or_false] at hx
    rcases hx with rfl | rfl | rfl | rfl | rfl
    · exact ⟨_, rfl⟩
    · exact ⟨_, rfl⟩
    · exact ⟨_, rfl⟩
    · exact ⟨_, 0, rfl⟩
    · exact ⟨_, rfl⟩
  · intro x hx v lo hi w w' h hb
    simp only [List.mem_cons, List.not_mem_nil, or_false] at hx
    rcases hx with rfl | rfl | rfl | rfl | rfl
    · exact trivial
    · exact trivial
    · exact trivial
    · obtain ⟨g, rfl, h1⟩ := h
      exact ⟨g, rfl, h1.later hb⟩
    · exact trivial
  · intro lo hi
    have kx0 := cell_regrown x0
    have kx1 := cell_regrown x1
    have kx2 := cell_regrown x2
    have ky0 := cell_regrown y0
    have ky1 := cell_regrown y1
    have ky2 := cell_regrown y2
    refine flowW_plain rfl ?_
    go_big_quiet_step (fail)
    refine wpQuiet_nil ?_
    refine flowW_plain rfl ?_
    go_big_quiet_step (fail)
    refine wpQuiet_nil ?_
    refine flowW_plain rfl ?_
    go_big_quiet_step (fail)
    refine wpQuiet_nil ?_
    refine flowW_plain rfl ?_
    go_big_quiet_step (fail)
    refine wpQuiet_nil ?_
    refine flowW_call rfl rfl ?_ ?_
    · intro W hW hF K hK
      clear kx0 kx1 kx2 ky0 ky1 ky2
      go_wp2_with fail
      refine (H1.out _).mono ?_
      rintro e wq ⟨rfl, rfl⟩
      go_wp2_with fail
      exact hK _ _ rfl trivial (Below.refl _ _)
    rintro v rfl K hK
    go_simp
    refine hK _ ?_
    clear hK K
    refine flowW_plain rfl ?_
    go_big_quiet_step (fail)
    refine wpQuiet_nil ?_
    refine flowW_plain rfl ?_
    go_big_quiet_step (fail)
    refine wpQuiet_nil ?_
    refine flowW_plain rfl ?_
    go_big_quiet_step (fail)
    refine wpQuiet_nil ?_
    refine flowW_plain rfl ?_
    go_big_quiet_step (fail)
    refine wpQuiet_nil ?_
    refine flowW_plain rfl ?_
    go_big_quiet_step (fail)
    refine wpQuiet_nil ?_
    refine flowW_plain rfl ?_
    go_big_quiet_step (fail)
    refine wpQuiet_nil ?_
    refine flowW_call rfl rfl ?_ ?_
    · intro W hW hF K hK
      clear kx0 kx1 kx2 ky0 ky1 ky2
      go_wp2_with fail
      refine (H2.out _).mono ?_
      rintro e wq ⟨rfl, rfl⟩
      go_wp2_with fail
      exact hK _ _ rfl trivial (Below.refl _ _)
    rintro v rfl K hK
    go_simp
    refine hK _ ?_
    clear hK K
    refine flowW_plain rfl ?_
    go_big_quiet_step (fail)
    refine wpQuiet_nil ?_
    refine flowW_plain rfl ?_
    go_big_quiet_step (fail)
    refine wpQuiet_nil ?_
    refine flowW_plain rfl ?_
    go_big_quiet_step (fail)
    refine wpQuiet_nil ?_
    refine flowW_plain rfl ?_
    go_big_quiet_step (fail)
    refine wpQuiet_nil ?_
    refine flowW_plain rfl ?_
    go_big_quiet_step (fail)
    refine wpQuiet_nil ?_
    refine flowW_plain rfl ?_
    go_big_quiet_step (fail)
    refine wpQuiet_nil ?_
    refine flowW_call rfl rfl ?_ ?_
    · intro W hW hF K hK
      clear kx0 kx1 kx2 ky0 ky1 ky2
      go_wp2_with fail
      refine (H3.out _).mono ?_
      rintro e wq ⟨rfl, rfl⟩
      go_wp2_with fail
      exact hK _ _ rfl trivial (Below.refl _ _)
    rintro v rfl K hK
    go_simp
    refine hK _ ?_
    clear hK K
    refine flowW_call rfl rfl ?_ ?_
    · intro W hW hF K hK
      clear kx0 kx1 kx2 ky0 ky1 ky2
      go_wp2_with fail
      exact hK _ _ ⟨_, rfl⟩ ⟨_, rfl, rd_lit _ #[.int .i64 p, .int .i64 q, .int .i64 r] 3 3 (by decide)⟩ (below_alloc _ _)
    rintro v ⟨g19, rfl⟩ K hK
    go_simp
    refine hK _ ?_
    clear hK K
    refine flowW_call rfl rfl ?_ ?_
    · intro W hW hF K hK
      clear kx0 kx1 kx2 ky0 ky1 ky2
      obtain ⟨_, he19, h19⟩ := hF 19 rfl
      cases he19
      go_wp2_with fail
      refine (or_any _ [p, q, r] _ h19).mono ?_
      rintro e wq ⟨rfl, rfl⟩
      go_wp2_with fail
      exact hK _ _ rfl trivial (Below.refl _ _)
    rintro v rfl K hK
    go_simp
    refine hK _ ?_
    clear hK K
    refine flowW_plain rfl ?_
    go_big_quiet_step (fail)
    refine wpQuiet_nil ?_
    refine flowW_end fun w2 hw2 hF hD => ?_
    clear kx0 kx1 kx2 ky0 ky1 ky2
    simp only [List.drop_succ_cons, List.drop_zero]
    go_wp2_with fail
    go_ret
    exact ⟨ret_int HO2.out, below_then HB.out hw2⟩

/-- A part in a box. -/
abbrev PrtAt (w : World) (q : Nat) (x : Prt) : Prop := Bx w q #[.int .i64 x.v.k, .int .i64 x.v.n, .string x.v.s, .int .i64 x.d.dev, .int .i64 x.d.seq, .int .i64 x.at_, .int .i64 x.tm, .int .i64 x.aft.dev, .int .i64 x.aft.seq, .int .i64 x.aat, .bool x.gone] 43

set_option maxRecDepth 100000 in
set_option maxHeartbeats 4000000 in
theorem has1_any (x y : Prt) (q : Nat) (w : World) (h : PrtAt w q y) :
    Calls Try.prog 57 #[x.agg, .pointer (some ⟨q, 0, none⟩)] w fun e w' => e = .returned (.bool (eqQ x y)) ∧ Below w.heap.size w w' := by
  have hq : eqQ x y = (decide (x.v.n = y.v.n) && decide (x.d = y.d)) := rfl
  obtain ⟨⟨xk, xn, xs⟩, ⟨xd, xq⟩, xat, xtm, ⟨xfd, xfq⟩, xaa, xg⟩ := x
  obtain ⟨⟨yk, yn, ys⟩, ⟨yd, yq⟩, yat, ytm, ⟨yfd, yfq⟩, yaa, yg⟩ := y
  have hb1 := below_alloc w (.cells #[.int .i64 xk, .int .i64 xn, .string xs, .int .i64 xd, .int .i64 xq, .int .i64 xat, .int .i64 xtm, .int .i64 xfd, .int .i64 xfq, .int .i64 xaa, .bool xg] 43)
  obtain ⟨w1, hw1⟩ : ∃ w1, w.alloc (.cells #[.int .i64 xk, .int .i64 xn, .string xs, .int .i64 xd, .int .i64 xq, .int .i64 xat, .int .i64 xtm, .int .i64 xfd, .int .i64 xfq, .int .i64 xaa, .bool xg] 43) = w1 := ⟨_, rfl⟩
  have b0 : Bx w1 w.heap.size #[.int .i64 xk, .int .i64 xn, .string xs, .int .i64 xd, .int .i64 xq, .int .i64 xat, .int .i64 xtm, .int .i64 xfd, .int .i64 xfq, .int .i64 xaa, .bool xg] 43 := by rw [← hw1]; exact bx_new rfl
  rw [hw1] at hb1
  have b1 := bx_later hb1 h
  have c0 := cell_of_box b0 0 rfl
  have c1 := cell_of_box b0 1 rfl
  have c2 := cell_of_box b0 2 rfl
  have c3 := cell_of_box b0 3 rfl
  have c4 := cell_of_box b0 4 rfl
  have c5 := cell_of_box b0 5 rfl
  have c6 := cell_of_box b0 6 rfl
  have c7 := cell_of_box b0 7 rfl
  have c8 := cell_of_box b0 8 rfl
  have c9 := cell_of_box b0 9 rfl
  have c10 := cell_of_box b0 10 rfl
  have e0 := cell_of_box b1 0 rfl
  have e1 := cell_of_box b1 1 rfl
  have e2 := cell_of_box b1 2 rfl
  have e3 := cell_of_box b1 3 rfl
  have e4 := cell_of_box b1 4 rfl
  have e5 := cell_of_box b1 5 rfl
  have e6 := cell_of_box b1 6 rfl
  have e7 := cell_of_box b1 7 rfl
  have e8 := cell_of_box b1 8 rfl
  have e9 := cell_of_box b1 9 rfl
  have e10 := cell_of_box b1 10 rfl
  have HW := Lib.hid hw1
  have HB := Lib.hid hb1
  have HQ := Lib.hid hq
  have cO := fun {k n : Int} {s : ByteArray} {d q a t fd fq aa : Int} {g : Bool} => of_c k n s d q a t fd fq aa g w1
  clear hw1 hb1 b0 b1 h hq
  have key : (xn = yn ∧ xd = yd ∧ xq = yq) ∨ ((xn == yn) = false) ∨ (xn = yn ∧ (xd == yd) = false) ∨ (xn = yn ∧ xd = yd ∧ (xq == yq) = false) := by
    by_cases h1 : xn = yn
    · by_cases h2 : xd = yd
      · by_cases h3 : xq = yq
        · exact .inl ⟨h1, h2, h3⟩
        · exact .inr (.inr (.inr ⟨h1, h2, by simpa using h3⟩))
      · exact .inr (.inr (.inl ⟨h1, by simpa using h2⟩))
    · exact .inr (.inl (by simpa using h1))
  rcases key with ⟨rfl, rfl, rfl⟩ | h1 | ⟨rfl, h1⟩ | ⟨rfl, rfl, h1⟩
  · have HR := Lib.hid (HQ.out.trans (show _ = true by simp))
    go_enter Try.func57, Try.ntmps57
    go_wp2_with fail
    rw [HW.out]
    have kc0 := cell_regrown c0
    have kc1 := cell_regrown c1
    have kc2 := cell_regrown c2
    have kc3 := cell_regrown c3
    have kc4 := cell_regrown c4
    have kc5 := cell_regrown c5
    have kc6 := cell_regrown c6
    have kc7 := cell_regrown c7
    have kc8 := cell_regrown c8
    have kc9 := cell_regrown c9
    have kc10 := cell_regrown c10
    have ke0 := cell_regrown e0
    have ke1 := cell_regrown e1
    have ke2 := cell_regrown e2
    have ke3 := cell_regrown e3
    have ke4 := cell_regrown e4
    have ke5 := cell_regrown e5
    have ke6 := cell_regrown e6
    have ke7 := cell_regrown e7
    have ke8 := cell_regrown e8
    have ke9 := cell_regrown e9
    have ke10 := cell_regrown e10
    refine wp_region_quiet_below (by kernel_rfl) (by kernel_rfl) ?_
    repeat (go_big_quiet_step (first | exact cO _ _))
    refine wpQuiet_nil ?_
    intro _ hw'
    obtain ⟨⟨dq, osq⟩, hw''⟩ := hw'
    subst hw''
    clear kc0 kc1 kc2 kc3 kc4 kc5 kc6 kc7 kc8 kc9 kc10 ke0 ke1 ke2 ke3 ke4 ke5 ke6 ke7 ke8 ke9 ke10 cO
    have hb2 := below_regrown w1 dq osq
    generalize grow (redrawn w1 dq) osq = w2 at *
    replace c0 := cell_later hb2 c0
    replace c1 := cell_later hb2 c1
    replace c2 := cell_later hb2 c2
    replace c3 := cell_later hb2 c3
    replace c4 := cell_later hb2 c4
    replace c5 := cell_later hb2 c5
    replace c6 := cell_later hb2 c6
    replace c7 := cell_later hb2 c7
    replace c8 := cell_later hb2 c8
    replace c9 := cell_later hb2 c9
    replace c10 := cell_later hb2 c10
    replace e0 := cell_later hb2 e0
    replace e1 := cell_later hb2 e1
    replace e2 := cell_later hb2 e2
    replace e3 := cell_later hb2 e3
    replace e4 := cell_later hb2 e4
    replace e5 := cell_later hb2 e5
    replace e6 := cell_later hb2 e6
    replace e7 := cell_later hb2 e7
    replace e8 := cell_later hb2 e8
    replace e9 := cell_later hb2 e9
    replace e10 := cell_later hb2 e10
    have HB2 := Lib.hid (below_then HB.out hb2)
    clear hb2
    go_wp2_with fail
    go_ret
    exact ⟨ret_bool HR.out.symm, HB2.out⟩
  · have HR := Lib.hid (HQ.out.trans (show _ = false by have h2 : ¬ xn = yn := (by simpa using h1); simp [h2]))
    go_enter Try.func57, Try.ntmps57
    go_wp2_with fail
    rw [HW.out]
    have kc0 := cell_regrown c0
    have kc1 := cell_regrown c1
    have kc2 := cell_regrown c2
    have kc3 := cell_regrown c3
    have kc4 := cell_regrown c4
    have kc5 := cell_regrown c5
    have kc6 := cell_regrown c6
    have kc7 := cell_regrown c7
    have kc8 := cell_regrown c8
    have kc9 := cell_regrown c9
    have kc10 := cell_regrown c10
    have ke0 := cell_regrown e0
    have ke1 := cell_regrown e1
    have ke2 := cell_regrown e2
    have ke3 := cell_regrown e3
    have ke4 := cell_regrown e4
    have ke5 := cell_regrown e5
    have ke6 := cell_regrown e6
    have ke7 := cell_regrown e7
    have ke8 := cell_regrown e8
    have ke9 := cell_regrown e9
    have ke10 := cell_regrown e10
    refine wp_region_quiet_below (by kernel_rfl) (by kernel_rfl) ?_
    repeat (go_big_quiet_step (first | exact cO _ _))
    refine wpQuiet_nil ?_
    intro _ hw'
    obtain ⟨⟨dq, osq⟩, hw''⟩ := hw'
    subst hw''
    clear kc0 kc1 kc2 kc3 kc4 kc5 kc6 kc7 kc8 kc9 kc10 ke0 ke1 ke2 ke3 ke4 ke5 ke6 ke7 ke8 ke9 ke10 cO
    have hb2 := below_regrown w1 dq osq
    generalize grow (redrawn w1 dq) osq = w2 at *
    replace c0 := cell_later hb2 c0
    replace c1 := cell_later hb2 c1
    replace c2 := cell_later hb2 c2
    replace c3 := cell_later hb2 c3
    replace c4 := cell_later hb2 c4
    replace c5 := cell_later hb2 c5
    replace c6 := cell_later hb2 c6
    replace c7 := cell_later hb2 c7
    replace c8 := cell_later hb2 c8
    replace c9 := cell_later hb2 c9
    replace c10 := cell_later hb2 c10
    replace e0 := cell_later hb2 e0
    replace e1 := cell_later hb2 e1
    replace e2 := cell_later hb2 e2
    replace e3 := cell_later hb2 e3
    replace e4 := cell_later hb2 e4
    replace e5 := cell_later hb2 e5
    replace e6 := cell_later hb2 e6
    replace e7 := cell_later hb2 e7
    replace e8 := cell_later hb2 e8
    replace e9 := cell_later hb2 e9
    replace e10 := cell_later hb2 e10
    have HB2 := Lib.hid (below_then HB.out hb2)
    clear hb2
    go_wp2_with fail
    go_ret
    exact ⟨ret_bool HR.out.symm, HB2.out⟩
  · have HR := Lib.hid (HQ.out.trans (show _ = false by have h2 : ¬ xd = yd := (by simpa using h1); simp [h2]))
    go_enter Try.func57, Try.ntmps57
    go_wp2_with fail
    rw [HW.out]
    have kc0 := cell_regrown c0
    have kc1 := cell_regrown c1
    have kc2 := cell_regrown c2
    have kc3 := cell_regrown c3
    have kc4 := cell_regrown c4
    have kc5 := cell_regrown c5
    have kc6 := cell_regrown c6
    have kc7 := cell_regrown c7
    have kc8 := cell_regrown c8
    have kc9 := cell_regrown c9
    have kc10 := cell_regrown c10
    have ke0 := cell_regrown e0
    have ke1 := cell_regrown e1
    have ke2 := cell_regrown e2
    have ke3 := cell_regrown e3
    have ke4 := cell_regrown e4
    have ke5 := cell_regrown e5
    have ke6 := cell_regrown e6
    have ke7 := cell_regrown e7
    have ke8 := cell_regrown e8
    have ke9 := cell_regrown e9
    have ke10 := cell_regrown e10
    refine wp_region_quiet_below (by kernel_rfl) (by kernel_rfl) ?_
    repeat (go_big_quiet_step (first | exact cO _ _))
    refine wpQuiet_nil ?_
    intro _ hw'
    obtain ⟨⟨dq, osq⟩, hw''⟩ := hw'
    subst hw''
    clear kc0 kc1 kc2 kc3 kc4 kc5 kc6 kc7 kc8 kc9 kc10 ke0 ke1 ke2 ke3 ke4 ke5 ke6 ke7 ke8 ke9 ke10 cO
    have hb2 := below_regrown w1 dq osq
    generalize grow (redrawn w1 dq) osq = w2 at *
    replace c0 := cell_later hb2 c0
    replace c1 := cell_later hb2 c1
    replace c2 := cell_later hb2 c2
    replace c3 := cell_later hb2 c3
    replace c4 := cell_later hb2 c4
    replace c5 := cell_later hb2 c5
    replace c6 := cell_later hb2 c6
    replace c7 := cell_later hb2 c7
    replace c8 := cell_later hb2 c8
    replace c9 := cell_later hb2 c9
    replace c10 := cell_later hb2 c10
    replace e0 := cell_later hb2 e0
    replace e1 := cell_later hb2 e1
    replace e2 := cell_later hb2 e2
    replace e3 := cell_later hb2 e3
    replace e4 := cell_later hb2 e4
    replace e5 := cell_later hb2 e5
    replace e6 := cell_later hb2 e6
    replace e7 := cell_later hb2 e7
    replace e8 := cell_later hb2 e8
    replace e9 := cell_later hb2 e9
    replace e10 := cell_later hb2 e10
    have HB2 := Lib.hid (below_then HB.out hb2)
    clear hb2
    go_wp2_with fail
    go_ret
    exact ⟨ret_bool HR.out.symm, HB2.out⟩
  · have HR := Lib.hid (HQ.out.trans (show _ = false by have h2 : ¬ xq = yq := (by simpa using h1); simp [h2]))
    go_enter Try.func57, Try.ntmps57
    go_wp2_with fail
    rw [HW.out]
    have kc0 := cell_regrown c0
    have kc1 := cell_regrown c1
    have kc2 := cell_regrown c2
    have kc3 := cell_regrown c3
    have kc4 := cell_regrown c4
    have kc5 := cell_regrown c5
    have kc6 := cell_regrown c6
    have kc7 := cell_regrown c7
    have kc8 := cell_regrown c8
    have kc9 := cell_regrown c9
    have kc10 := cell_regrown c10
    have ke0 := cell_regrown e0
    have ke1 := cell_regrown e1
    have ke2 := cell_regrown e2
    have ke3 := cell_regrown e3
    have ke4 := cell_regrown e4
    have ke5 := cell_regrown e5
    have ke6 := cell_regrown e6
    have ke7 := cell_regrown e7
    have ke8 := cell_regrown e8
    have ke9 := cell_regrown e9
    have ke10 := cell_regrown e10
    refine wp_region_quiet_below (by kernel_rfl) (by kernel_rfl) ?_
    repeat (go_big_quiet_step (first | exact cO _ _))
    refine wpQuiet_nil ?_
    intro _ hw'
    obtain ⟨⟨dq, osq⟩, hw''⟩ := hw'
    subst hw''
    clear kc0 kc1 kc2 kc3 kc4 kc5 kc6 kc7 kc8 kc9 kc10 ke0 ke1 ke2 ke3 ke4 ke5 ke6 ke7 ke8 ke9 ke10 cO
    have hb2 := below_regrown w1 dq osq
    generalize grow (redrawn w1 dq) osq = w2 at *
    replace c0 := cell_later hb2 c0
    replace c1 := cell_later hb2 c1
    replace c2 := cell_later hb2 c2
    replace c3 := cell_later hb2 c3
    replace c4 := cell_later hb2 c4
    replace c5 := cell_later hb2 c5
    replace c6 := cell_later hb2 c6
    replace c7 := cell_later hb2 c7
    replace c8 := cell_later hb2 c8
    replace c9 := cell_later hb2 c9
    replace c10 := cell_later hb2 c10
    replace e0 := cell_later hb2 e0
    replace e1 := cell_later hb2 e1
    replace e2 := cell_later hb2 e2
    replace e3 := cell_later hb2 e3
    replace e4 := cell_later hb2 e4
    replace e5 := cell_later hb2 e5
    replace e6 := cell_later hb2 e6
    replace e7 := cell_later hb2 e7
    replace e8 := cell_later hb2 e8
    replace e9 := cell_later hb2 e9
    replace e10 := cell_later hb2 e10
    have HB2 := Lib.hid (below_then HB.out hb2)
    clear hb2
    go_wp2_with fail
    go_ret
    exact ⟨ret_bool HR.out.symm, HB2.out⟩

theorem has_test (w : World) (y : Prt) (q : Nat) (h : PrtAt w q y) : TestP w 57 #[.pointer (some ⟨q, 0, none⟩)] (fun p => eqQ p y) :=
  ⟨enters_of Try.func57 (by kernel_rfl) rfl, fun x W hb => has1_any x y q W (bx_later hb h)⟩

set_option maxRecDepth 100000 in
set_option maxHeartbeats 1000000 in
theorem bhas_any (v : Value) (l : List Prt) (y : Prt) (w : World) (h : PRd w v l) (hn : l.length ≤ 1000000) :
    Calls Try.prog 35 #[v, y.agg] w fun e w' => e = .returned (.bool (inQ l y)) ∧ Below w.heap.size w w' := by
  have hb := below_alloc w (.cells #[.int .i64 y.v.k, .int .i64 y.v.n, .string y.v.s, .int .i64 y.d.dev, .int .i64 y.d.seq, .int .i64 y.at_, .int .i64 y.tm, .int .i64 y.aft.dev, .int .i64 y.aft.seq, .int .i64 y.aat, .bool y.gone] 43)
  have hd : PrtAt (w.alloc (.cells #[.int .i64 y.v.k, .int .i64 y.v.n, .string y.v.s, .int .i64 y.d.dev, .int .i64 y.d.seq, .int .i64 y.at_, .int .i64 y.tm, .int .i64 y.aft.dev, .int .i64 y.aft.seq, .int .i64 y.aat, .bool y.gone] 43)) w.heap.size y := bx_new rfl
  have HC := Lib.hid (containsP_any v l _ (has_test _ y _ hd) (h.later hb) hn)
  have HB := Lib.hid hb
  obtain ⟨ao, c, rfl, _⟩ := id h
  clear h hb hd hn
  go_enter Try.func35, Try.ntmps35
  go_wp2_with fail
  refine HC.out.mono ?_
  rintro e w1 ⟨rfl, hb1⟩
  have HB1 := Lib.hid (below_then HB.out hb1)
  clear hb1 HC
  go_wp2_with fail
  go_ret
  exact ⟨rfl, HB1.out⟩

/-- A number in a box. -/
def IntAt (w : World) (q : Nat) (n : Int) : Prop := w.cell? ⟨q, 0, none⟩ = some (.int .i64 n)
theorem IntAt.later {w w' : World} {q : Nat} {n : Int} (h : IntAt w q n) (hb : Below w.heap.size w w') : IntAt w' q n := cell_later hb h

set_option maxRecDepth 100000 in
set_option maxHeartbeats 1000000 in
theorem hasN1_any (x : Prt) (n : Int) (q : Nat) (w : World) (h : IntAt w q n) :
    Calls Try.prog 46 #[x.agg, .pointer (some ⟨q, 0, none⟩)] w fun e w' => e = .returned (.bool (decide (x.v.n = n))) ∧ Below w.heap.size w w' := by
  have hb := below_alloc w (.cells #[.int .i64 x.v.k, .int .i64 x.v.n, .string x.v.s, .int .i64 x.d.dev, .int .i64 x.d.seq, .int .i64 x.at_, .int .i64 x.tm, .int .i64 x.aft.dev, .int .i64 x.aft.seq, .int .i64 x.aat, .bool x.gone] 43)
  have g0 : _ = some (Value.int .i64 n) := cell_later hb h
  have HB := Lib.hid hb
  clear h hb
  cases e1 : (x.v.n == n)
  all_goals
    have HR : Hid (decide (x.v.n = n) = (x.v.n == n)) := by show _ = _; rw [Bool.eq_iff_iff]; simp
    have E1 := Lib.hid e1
    go_enter Try.func46, Try.ntmps46
    go_wp2
    go_ret
    exact ⟨ret_bool (by rw [HR.out, E1.out]), HB.out⟩
theorem hasN_test (w : World) (n : Int) (q : Nat) (h : IntAt w q n) : TestP w 46 #[.pointer (some ⟨q, 0, none⟩)] (fun p => decide (p.v.n = n)) :=
  ⟨enters_of Try.func46 (by kernel_rfl) rfl, fun x W hb => hasN1_any x n q W (h.later hb)⟩

set_option maxRecDepth 100000 in
set_option maxHeartbeats 1000000 in
theorem bagHas_any (kd : Int) (cv : Val) (va : Value) (l : List Prt) (n : Int) (w : World) (h : PRd w va l) (hn : l.length ≤ 1000000) :
    Calls Try.prog 16 #[.agg #[.int .i64 kd, .int .i64 cv.k, .int .i64 cv.n, .string cv.s, va], .int .i64 n] w fun e w' => e = .returned (.bool (hasN l n)) ∧ Below w.heap.size w w' := by
  obtain ⟨w1, hw1⟩ : ∃ w1, (w.alloc (.cells #[.int .i64 kd, .int .i64 cv.k, .int .i64 cv.n, .string cv.s, va] 26)).alloc (.cells #[.int .i64 n] 3) = w1 := ⟨_, rfl⟩
  have hb1 : Below w.heap.size w w1 := by rw [← hw1]; exact below_alloc_then (below_alloc _ _)
  have b1 : Bx w1 (w.heap.size + 1) #[.int .i64 n] 3 := by rw [← hw1]; exact bx_new (by simp)
  have b0 : Bx w1 w.heap.size #[.int .i64 kd, .int .i64 cv.k, .int .i64 cv.n, .string cv.s, va] 26 := by rw [← hw1]; exact bx_later (below_alloc _ _) (bx_new rfl)
  have x4 := cell_of_box b0 4 rfl
  have HC := Lib.hid (containsP_any va l w1 (hasN_test w1 n (w.heap.size + 1) (cell_of_box b1 0 rfl)) (h.later hb1) hn)
  have HW := Lib.hid hw1
  have HB := Lib.hid hb1
  obtain ⟨ao, c, rfl, _⟩ := id h
  clear h hb1 hw1 b0 b1 hn
  go_enter Try.func16, Try.ntmps16
  go_wp2_with fail
  rw [HW.out]
  go_wp2_with fail
  refine HC.out.mono ?_
  rintro e w2 ⟨rfl, hb2⟩
  have HB1 := Lib.hid (below_then HB.out hb2)
  clear hb2 HC x4
  go_wp2_with fail
  go_ret
  exact ⟨rfl, HB1.out⟩
end Go.Proofs.Ytnpciogpegmejaa
