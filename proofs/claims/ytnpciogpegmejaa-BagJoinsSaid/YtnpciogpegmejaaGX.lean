/-
  Layer 9 (bag): the document's answer: alike, behind, in, put, Join. (printed by tools/gen_gx.py)
-/
import Derived.Test.YtnpciogpegmejaaGA
import Derived.Test.YtnpciogpegmejaaMF
import Derived.Test.YtnpciogpegmejaaOG
import Derived.Test.YtnpciogpegmejaaFL
namespace Go.Proofs.Ytnpciogpegmejaa
open Go.RowKit Go.Sort Go.BigFrame
attribute [local irreducible] FlowW

set_option maxRecDepth 100000 in
set_option maxHeartbeats 4000000 in
theorem alike_any (x y : Prt) (w : World) : Calls Try.prog 60 #[x.agg, y.agg] w fun e w' => e = .returned (.bool (eqQ x y)) ∧ Below w.heap.size w w' := by
  have hq : eqQ x y = (decide (x.v.n = y.v.n) && decide (x.d = y.d)) := rfl
  obtain ⟨⟨xk, xn, xs⟩, ⟨xd, xq⟩, xat, xtm, ⟨xfd, xfq⟩, xaa, xg⟩ := x
  obtain ⟨⟨yk, yn, ys⟩, ⟨yd, yq⟩, yat, ytm, ⟨yfd, yfq⟩, yaa, yg⟩ := y
  obtain ⟨w1, hw1⟩ : ∃ w1, (w.alloc (.cells #[.int .i64 xk, .int .i64 xn, .string xs, .int .i64 xd, .int .i64 xq, .int .i64 xat, .int .i64 xtm, .int .i64 xfd, .int .i64 xfq, .int .i64 xaa, .bool xg] 43)).alloc (.cells #[.int .i64 yk, .int .i64 yn, .string ys, .int .i64 yd, .int .i64 yq, .int .i64 yat, .int .i64 ytm, .int .i64 yfd, .int .i64 yfq, .int .i64 yaa, .bool yg] 43) = w1 := ⟨_, rfl⟩
  have hb1 : Below w.heap.size w w1 := by rw [← hw1]; exact below_alloc_then (below_alloc _ _)
  have b0 : Bx w1 w.heap.size #[.int .i64 xk, .int .i64 xn, .string xs, .int .i64 xd, .int .i64 xq, .int .i64 xat, .int .i64 xtm, .int .i64 xfd, .int .i64 xfq, .int .i64 xaa, .bool xg] 43 := by rw [← hw1]; exact bx_later (below_alloc _ _) (bx_new rfl)
  have b1 : Bx w1 (w.heap.size + 1) #[.int .i64 yk, .int .i64 yn, .string ys, .int .i64 yd, .int .i64 yq, .int .i64 yat, .int .i64 ytm, .int .i64 yfd, .int .i64 yfq, .int .i64 yaa, .bool yg] 43 := by rw [← hw1]; exact bx_new (by simp)
  have c0 := cell_of_box b0 0 rfl
  have c1 := cell_of_box b0 1 rfl
  have c2 := cell_of_box b0 2 rfl
  have c3 := cell_of_box b0 3 rfl
  have c4 := cell_of_box b0 4 rfl
  have c5 := cell_of_box b0 5 rfl
  have c6 := cell_of_box b0 6 rfl
  have c7 := cell_of_box b0 7 rfl
  have c8 := cell_of_box b0 8 rfl
  have c9 := cell_of_box b0 9 rfl
  have c10 := cell_of_box b0 10 rfl
  have e0 := cell_of_box b1 0 rfl
  have e1 := cell_of_box b1 1 rfl
  have e2 := cell_of_box b1 2 rfl
  have e3 := cell_of_box b1 3 rfl
  have e4 := cell_of_box b1 4 rfl
  have e5 := cell_of_box b1 5 rfl
  have e6 := cell_of_box b1 6 rfl
  have e7 := cell_of_box b1 7 rfl
  have e8 := cell_of_box b1 8 rfl
  have e9 := cell_of_box b1 9 rfl
  have e10 := cell_of_box b1 10 rfl
  have HW := Lib.hid hw1
  have HB := Lib.hid hb1
  have HQ := Lib.hid hq
  clear hw1 hb1 b0 b1 hq
  have key : (xn = yn ∧ xd = yd ∧ xq = yq) ∨ ((xn == yn) = false) ∨ (xn = yn ∧ (xd == yd) = false) ∨ (xn = yn ∧ xd = yd ∧ (xq == yq) = false) := by
    by_cases h1 : xn = yn
    · by_cases h2 : xd = yd
      · by_cases h3 : xq = yq
        · exact .inl ⟨h1, h2, h3⟩
        · exact .inr (.inr (.inr ⟨h1, h2, by simpa using h3⟩))
      · exact .inr (.inr (.inl ⟨h1, by simpa using h2⟩))
    · exact .inr (.inl (by simpa using h1))
  rcases key with ⟨rfl, rfl, rfl⟩ | h1 | ⟨rfl, h1⟩ | ⟨rfl, rfl, h1⟩
  · have HR := Lib.hid (HQ.out.trans (show _ = true by simp))
    clear HQ
    go_enter Try.func60, Try.ntmps60
    go_wp2_with fail
    rw [HW.out]
    go_wp2_with fail
    go_ret
    exact ⟨ret_bool HR.out.symm, HB.out⟩
  · have HR := Lib.hid (HQ.out.trans (show _ = false by have h2 : ¬ xn = yn := (by simpa using h1); simp [h2]))
    clear HQ
    go_enter Try.func60, Try.ntmps60
    go_wp2_with fail
    rw [HW.out]
    go_wp2_with fail
    go_ret
    exact ⟨ret_bool HR.out.symm, HB.out⟩
  · have HR := Lib.hid (HQ.out.trans (show _ = false by have h2 : ¬ xd = yd := (by simpa using h1); simp [h2]))
    clear HQ
    go_enter Try.func60, Try.ntmps60
    go_wp2_with fail
    rw [HW.out]
    go_wp2_with fail
    go_ret
    exact ⟨ret_bool HR.out.symm, HB.out⟩
  · have HR := Lib.hid (HQ.out.trans (show _ = false by have h2 : ¬ xq = yq := (by simpa using h1); simp [h2]))
    clear HQ
    go_enter Try.func60, Try.ntmps60
    go_wp2_with fail
    rw [HW.out]
    go_wp2_with fail
    go_ret
    exact ⟨ret_bool HR.out.symm, HB.out⟩

set_option maxRecDepth 100000 in
set_option maxHeartbeats 4000000 in
theorem behind_any (x y : Prt) (w : World) : Calls Try.prog 61 #[x.agg, y.agg] w fun e w' => e = .returned (.bool (ltQ y x)) ∧ Below w.heap.size w w' := by
  have hq : ltQ y x = if y.v.n = x.v.n then ltD y.d x.d else decide (y.v.n < x.v.n) := rfl
  obtain ⟨⟨xk, xn, xs⟩, ⟨xd, xq⟩, xat, xtm, ⟨xfd, xfq⟩, xaa, xg⟩ := x
  obtain ⟨⟨yk, yn, ys⟩, ⟨yd, yq⟩, yat, ytm, ⟨yfd, yfq⟩, yaa, yg⟩ := y
  obtain ⟨w1, hw1⟩ : ∃ w1, (w.alloc (.cells #[.int .i64 xk, .int .i64 xn, .string xs, .int .i64 xd, .int .i64 xq, .int .i64 xat, .int .i64 xtm, .int .i64 xfd, .int .i64 xfq, .int .i64 xaa, .bool xg] 43)).alloc (.cells #[.int .i64 yk, .int .i64 yn, .string ys, .int .i64 yd, .int .i64 yq, .int .i64 yat, .int .i64 ytm, .int .i64 yfd, .int .i64 yfq, .int .i64 yaa, .bool yg] 43) = w1 := ⟨_, rfl⟩
  have hb1 : Below w.heap.size w w1 := by rw [← hw1]; exact below_alloc_then (below_alloc _ _)
  have b0 : Bx w1 w.heap.size #[.int .i64 xk, .int .i64 xn, .string xs, .int .i64 xd, .int .i64 xq, .int .i64 xat, .int .i64 xtm, .int .i64 xfd, .int .i64 xfq, .int .i64 xaa, .bool xg] 43 := by rw [← hw1]; exact bx_later (below_alloc _ _) (bx_new rfl)
  have b1 : Bx w1 (w.heap.size + 1) #[.int .i64 yk, .int .i64 yn, .string ys, .int .i64 yd, .int .i64 yq, .int .i64 yat, .int .i64 ytm, .int .i64 yfd, .int .i64 yfq, .int .i64 yaa, .bool yg] 43 := by rw [← hw1]; exact bx_new (by simp)
  have c0 := cell_of_box b0 0 rfl
  have c1 := cell_of_box b0 1 rfl
  have c2 := cell_of_box b0 2 rfl
  have c3 := cell_of_box b0 3 rfl
  have c4 := cell_of_box b0 4 rfl
  have c5 := cell_of_box b0 5 rfl
  have c6 := cell_of_box b0 6 rfl
  have c7 := cell_of_box b0 7 rfl
  have c8 := cell_of_box b0 8 rfl
  have c9 := cell_of_box b0 9 rfl
  have c10 := cell_of_box b0 10 rfl
  have e0 := cell_of_box b1 0 rfl
  have e1 := cell_of_box b1 1 rfl
  have e2 := cell_of_box b1 2 rfl
  have e3 := cell_of_box b1 3 rfl
  have e4 := cell_of_box b1 4 rfl
  have e5 := cell_of_box b1 5 rfl
  have e6 := cell_of_box b1 6 rfl
  have e7 := cell_of_box b1 7 rfl
  have e8 := cell_of_box b1 8 rfl
  have e9 := cell_of_box b1 9 rfl
  have e10 := cell_of_box b1 10 rfl
  have HW := Lib.hid hw1
  have HB := Lib.hid hb1
  have HQ := Lib.hid hq
  clear hw1 hb1 b0 b1 hq
  rcases Int.lt_trichotomy xn yn with h | h | h
  · have h1 : decide (yn < xn) = false := decide_eq_false (by omega)
    have h2 : (xn == yn) = false := by simp; omega
    have HR := Lib.hid (HQ.out.trans (show _ = false by show (if yn = xn then _ else decide (yn < xn)) = _; rw [if_neg (by omega), h1]))
    clear HQ h
    go_enter Try.func61, Try.ntmps61
    go_wp2_with fail
    rw [HW.out]
    go_wp2_with fail
    go_ret
    exact ⟨ret_bool HR.out.symm, HB.out⟩
  · subst h
    have h1 : decide (xn < xn) = false := decide_eq_false (by omega)
    have h2 : (xn == xn) = true := by simp
    have HR := Lib.hid (HQ.out.trans (show _ = ltD ⟨yd, yq⟩ ⟨xd, xq⟩ by show (if xn = xn then _ else _) = _; rw [if_pos rfl]))
    clear HQ
    go_enter Try.func61, Try.ntmps61
    go_wp2_with fail
    rw [HW.out]
    go_wp2_with fail
    refine (above_any ⟨xd, xq⟩ ⟨yd, yq⟩ _).mono ?_
    rintro e w2 ⟨rfl, hb2⟩
    have HB2 := Lib.hid (below_then HB.out hb2)
    clear hb2
    go_wp2_with fail
    go_ret
    exact ⟨ret_bool HR.out.symm, HB2.out⟩
  · have h1 : decide (yn < xn) = true := decide_eq_true (by omega)
    have HR := Lib.hid (HQ.out.trans (show _ = true by show (if yn = xn then _ else decide (yn < xn)) = _; rw [if_neg (by omega), h1]))
    clear HQ h
    go_enter Try.func61, Try.ntmps61
    go_wp2_with fail
    rw [HW.out]
    go_wp2_with fail
    go_ret
    exact ⟨ret_bool HR.out.symm, HB.out⟩

theorem alike_b {x y : Prt} {w : World} (b : Bool) (h : eqQ x y = b) : Calls Try.prog 60 #[x.agg, y.agg] w fun e w' => e = .returned (.bool b) ∧ Below w.heap.size w w' := h ▸ alike_any x y w
theorem behind_b {x y : Prt} {w : World} (b : Bool) (h : ltQ y x = b) : Calls Try.prog 61 #[x.agg, y.agg] w fun e w' => e = .returned (.bool b) ∧ Below w.heap.size w w' := h ▸ behind_any x y w
theorem inQ_stop {l : List Prt} {k : Nat} (hk : k < l.length) {p x : Prt} (hx : l[k] = x) (h : eqQ x p = true) : inQ l p = true := by
  unfold inQ
  exact List.any_eq_true.2 ⟨x, hx ▸ List.getElem_mem hk, h⟩
theorem inQ_none {l : List Prt} {p : Prt} (h : ∀ q ∈ l, eqQ q p = false) : inQ l p = false := by
  cases e : inQ l p with
  | false => rfl
  | true =>
    obtain ⟨q, hq, hh⟩ := List.any_eq_true.1 e
    rw [h q hq] at hh; cases hh

set_option maxRecDepth 100000 in
set_option maxHeartbeats 4000000 in
theorem refIn_any (va : Value) (l : List Prt) (p : Prt) (w : World) (ha : PRd w va l) (hn : l.length ≤ 1000000) :
    Calls Try.prog 41 #[va, p.agg] w fun e w' => e = .returned (.bool (inQ l p)) ∧ Below w.heap.size w w' := by
  obtain ⟨ao, cc, rfl, hnc, hcm, _, _⟩ := id ha
  obtain ⟨w1, hw1⟩ : ∃ w1, w.alloc (.cells #[.int .i64 p.v.k, .int .i64 p.v.n, .string p.v.s, .int .i64 p.d.dev, .int .i64 p.d.seq, .int .i64 p.at_, .int .i64 p.tm, .int .i64 p.aft.dev, .int .i64 p.aft.seq, .int .i64 p.aat, .bool p.gone] 43) = w1 := ⟨_, rfl⟩
  have hb1 : Below w.heap.size w w1 := by rw [← hw1]; exact below_alloc _ _
  have b1 : Bx w1 w.heap.size #[.int .i64 p.v.k, .int .i64 p.v.n, .string p.v.s, .int .i64 p.d.dev, .int .i64 p.d.seq, .int .i64 p.at_, .int .i64 p.tm, .int .i64 p.aft.dev, .int .i64 p.aft.seq, .int .i64 p.aat, .bool p.gone] 43 := by rw [← hw1]; exact bx_new rfl
  have HA := Lib.hid ha
  have HW := Lib.hid hw1
  have HB := Lib.hid hb1
  have B1 := Lib.hid b1
  obtain ⟨n, hln⟩ : ∃ n, l.length = n := ⟨_, rfl⟩
  have HLN := Lib.hid hln
  rw [hln] at hnc hn ⊢
  unfold maxLen at hcm
  clear ha hln hw1 hb1 b1
  go_enter Try.func41, Try.ntmps41
  go_wp2_with fail
  rw [HW.out]
  go_loopw [5] (fun vi wr => ∃ k : Nat, k ≤ n ∧ vi = .int .i64 k ∧ Hid (∀ q ∈ l.take k, eqQ q p = false) ∧ Hid (Below w1.heap.size w1 wr)) (fun vi _ => n - (intOf vi).toNat)
  case atStart => exact ⟨0, Nat.zero_le _, rfl, (fun q hq => by simp at hq), Below.refl _ _⟩
  case round =>
    obtain ⟨k, hk, rfl, hno, hbw⟩ := hrel
    rename World => wr
    by_cases hlt : k < n
    · have hkl : k < l.length := by have := HLN.out; omega
      obtain ⟨x, hx⟩ : ∃ x, l[k] = x := ⟨_, rfl⟩
      obtain ⟨b, oo, x1, c0, c1, c2, c3, c4, c5, c6, c7, c8, c9, c10, _⟩ := rd_prt (HA.out.later (below_then HB.out hbw.out)) rfl k hkl hx
      rw [HLN.out] at x1
      have e0 := cell_of_box (bx_later hbw.out B1.out) 0 rfl
      have e1 := cell_of_box (bx_later hbw.out B1.out) 1 rfl
      have e2 := cell_of_box (bx_later hbw.out B1.out) 2 rfl
      have e3 := cell_of_box (bx_later hbw.out B1.out) 3 rfl
      have e4 := cell_of_box (bx_later hbw.out B1.out) 4 rfl
      have e5 := cell_of_box (bx_later hbw.out B1.out) 5 rfl
      have e6 := cell_of_box (bx_later hbw.out B1.out) 6 rfl
      have e7 := cell_of_box (bx_later hbw.out B1.out) 7 rfl
      have e8 := cell_of_box (bx_later hbw.out B1.out) 8 rfl
      have e9 := cell_of_box (bx_later hbw.out B1.out) 9 rfl
      have e10 := cell_of_box (bx_later hbw.out B1.out) 10 rfl
      have HST : Hid (eqQ x p = true → inQ l p = true) := fun h => inQ_stop hkl hx h
      have HNX : Hid (eqQ x p = false → ∀ q ∈ l.take (k + 1), eqQ q p = false) := fun h q hq => by
        rw [List.take_succ_eq_append_getElem hkl] at hq
        rcases List.mem_append.1 hq with hq | hq
        · exact hno.out q hq
        · rw [List.mem_singleton.1 hq, hx]; exact h
      clear hx
      cases hq : eqQ x p
      all_goals
        have HE := Lib.hid hq
        clear hq
      · go_wp2_with fail
        refine wp_region_flow (by kernel_rfl) 6 [(5, ⟨fun v => v = .bool false, fun _ _ _ _ => True⟩)] (by kernel_rfl) ?_ ?_ ?_
        · intro x hx
          simp only [List.mem_cons, List.not_mem_nil, or_false] at hx
          subst hx
          exact ⟨_, rfl⟩
        · intro x hx v lo hi w w' h hb
          simp only [List.mem_cons, List.not_mem_nil, or_false] at hx
          subst hx
          exact trivial
        · intro lo hi
          have kc0 := cell_regrown c0
          have kc1 := cell_regrown c1
          have kc2 := cell_regrown c2
          have kc3 := cell_regrown c3
          have kc4 := cell_regrown c4
          have kc5 := cell_regrown c5
          have kc6 := cell_regrown c6
          have kc7 := cell_regrown c7
          have kc8 := cell_regrown c8
          have kc9 := cell_regrown c9
          have kc10 := cell_regrown c10
          have ke0 := cell_regrown e0
          have ke1 := cell_regrown e1
          have ke2 := cell_regrown e2
          have ke3 := cell_regrown e3
          have ke4 := cell_regrown e4
          have ke5 := cell_regrown e5
          have ke6 := cell_regrown e6
          have ke7 := cell_regrown e7
          have ke8 := cell_regrown e8
          have ke9 := cell_regrown e9
          have ke10 := cell_regrown e10
          refine flowW_plain rfl ?_
          go_big_quiet_step (fail)
          refine wpQuiet_nil ?_
          refine flowW_plain rfl ?_
          go_big_quiet_step (fail)
          refine wpQuiet_nil ?_
          refine flowW_plain rfl ?_
          go_big_quiet_step (fail)
          refine wpQuiet_nil ?_
          refine flowW_plain rfl ?_
          go_big_quiet_step (fail)
          refine wpQuiet_nil ?_
          refine flowW_plain rfl ?_
          go_big_quiet_step (fail)
          refine wpQuiet_nil ?_
          refine flowW_call rfl rfl ?_ ?_
          · intro W hW hF K hK
            clear kc0 kc1 kc2 kc3 kc4 kc5 kc6 kc7 kc8 kc9 kc10 ke0 ke1 ke2 ke3 ke4 ke5 ke6 ke7 ke8 ke9 ke10
            go_wp2_with fail
            refine (alike_b false HE.out).mono ?_
            rintro e wq ⟨rfl, hbq⟩
            go_wp2_with fail
            exact hK _ _ rfl trivial hbq
          rintro v rfl K hK
          go_simp
          refine hK _ ?_
          clear hK K
          refine flowW_end fun w2 hw2 hF hD => ?_
          clear kc0 kc1 kc2 kc3 kc4 kc5 kc6 kc7 kc8 kc9 kc10 ke0 ke1 ke2 ke3 ke4 ke5 ke6 ke7 ke8 ke9 ke10
          simp only [List.drop_succ_cons, List.drop_zero]
          have HB2 := Lib.hid (below_then hbw.out hw2)
          clear hw2 hF hD
          go_wp2_with fail
          go_roundw
          case rel => exact ⟨k + 1, by omega, by go_num, HNX.out HE.out, HB2.out⟩
          case measure => simp [intOf]; omega
      · go_wp2_with fail
        refine wp_region_flow (by kernel_rfl) 6 [(5, ⟨fun v => v = .bool true, fun _ _ _ _ => True⟩)] (by kernel_rfl) ?_ ?_ ?_
        · intro x hx
          simp only [List.mem_cons, List.not_mem_nil, or_false] at hx
          subst hx
          exact ⟨_, rfl⟩
        · intro x hx v lo hi w w' h hb
          simp only [List.mem_cons, List.not_mem_nil, or_false] at hx
          subst hx
          exact trivial
        · intro lo hi
          have kc0 := cell_regrown c0
          have kc1 := cell_regrown c1
          have kc2 := cell_regrown c2
          have kc3 := cell_regrown c3
          have kc4 := cell_regrown c4
          have kc5 := cell_regrown c5
          have kc6 := cell_regrown c6
          have kc7 := cell_regrown c7
          have kc8 := cell_regrown c8
          have kc9 := cell_regrown c9
          have kc10 := cell_regrown c10
          have ke0 := cell_regrown e0
          have ke1 := cell_regrown e1
          have ke2 := cell_regrown e2
          have ke3 := cell_regrown e3
          have ke4 := cell_regrown e4
          have ke5 := cell_regrown e5
          have ke6 := cell_regrown e6
          have ke7 := cell_regrown e7
          have ke8 := cell_regrown e8
          have ke9 := cell_regrown e9
          have ke10 := cell_regrown e10
          refine flowW_plain rfl ?_
          go_big_quiet_step (fail)
          refine wpQuiet_nil ?_
          refine flowW_plain rfl ?_
          go_big_quiet_step (fail)
          refine wpQuiet_nil ?_
          refine flowW_plain rfl ?_
          go_big_quiet_step (fail)
          refine wpQuiet_nil ?_
          refine flowW_plain rfl ?_
          go_big_quiet_step (fail)
          refine wpQuiet_nil ?_
          refine flowW_plain rfl ?_
          go_big_quiet_step (fail)
          refine wpQuiet_nil ?_
          refine flowW_call rfl rfl ?_ ?_
          · intro W hW hF K hK
            clear kc0 kc1 kc2 kc3 kc4 kc5 kc6 kc7 kc8 kc9 kc10 ke0 ke1 ke2 ke3 ke4 ke5 ke6 ke7 ke8 ke9 ke10
            go_wp2_with fail
            refine (alike_b true HE.out).mono ?_
            rintro e wq ⟨rfl, hbq⟩
            go_wp2_with fail
            exact hK _ _ rfl trivial hbq
          rintro v rfl K hK
          go_simp
          refine hK _ ?_
          clear hK K
          refine flowW_end fun w2 hw2 hF hD => ?_
          clear kc0 kc1 kc2 kc3 kc4 kc5 kc6 kc7 kc8 kc9 kc10 ke0 ke1 ke2 ke3 ke4 ke5 ke6 ke7 ke8 ke9 ke10
          simp only [List.drop_succ_cons, List.drop_zero]
          have HB2 := Lib.hid (below_then HB.out (below_then hbw.out hw2))
          clear hw2 hF hD
          go_wp2_with fail
          go_ret
          exact ⟨ret_bool (HST.out HE.out).symm, HB2.out⟩
    · have hkn : k = n := by omega
      subst hkn
      have HF := Lib.hid (inQ_none (l := l) (p := p) (by have := hno.out; rwa [List.take_of_length_le (by have := HLN.out; omega)] at this))
      go_wp2_with fail
      go_ret
      exact ⟨ret_bool HF.out.symm, below_then HB.out hbw.out⟩
theorem refIn_b {va : Value} {l : List Prt} {p : Prt} {w : World} (b : Bool) (h : inQ l p = b) (ha : PRd w va l) (hn : l.length ≤ 1000000) :
    Calls Try.prog 41 #[va, p.agg] w fun e w' => e = .returned (.bool b) ∧ Below w.heap.size w w' := h ▸ refIn_any va l p w ha hn

/-- What is still to come of a put. -/
def putRQ (p : Prt) (laid : Bool) (l : List Prt) : List Prt := if laid then l else putQ p l
theorem putRQ_hit {p x : Prt} {l : List Prt} (h : ltQ p x = true) : putRQ p false (x :: l) = p :: x :: putRQ p true l := by
  unfold putRQ putQ
  simp only [Bool.false_eq_true, if_false, if_true]
  rw [List.takeWhile_cons_of_neg (by simp [h]), List.dropWhile_cons_of_neg (by simp [h])]; rfl
theorem putRQ_miss {p x : Prt} {l : List Prt} (h : ltQ p x = false) : putRQ p false (x :: l) = x :: putRQ p false l := by
  unfold putRQ putQ
  simp only [Bool.false_eq_true, if_false]
  rw [List.takeWhile_cons_of_pos (by simp [h]), List.dropWhile_cons_of_pos (by simp [h])]; rfl
theorem putRQ_laid {p x : Prt} {l : List Prt} : putRQ p true (x :: l) = x :: putRQ p true l := rfl
theorem putRQ_end {p : Prt} : putRQ p false [] = [p] := rfl

set_option maxRecDepth 100000 in
set_option maxHeartbeats 8000000 in
theorem refPut_any (va : Value) (l : List Prt) (p : Prt) (w : World) (ha : PRd w va l) (hn : l.length ≤ 1000) :
    Calls Try.prog 42 #[va, p.agg] w (OwnPostP w (putQ p l)) := by
  obtain ⟨ao, cc, rfl, hnc, hcm, _, _⟩ := id ha
  obtain ⟨w1, hw1⟩ : ∃ w1, w.alloc (.cells #[.int .i64 p.v.k, .int .i64 p.v.n, .string p.v.s, .int .i64 p.d.dev, .int .i64 p.d.seq, .int .i64 p.at_, .int .i64 p.tm, .int .i64 p.aft.dev, .int .i64 p.aft.seq, .int .i64 p.aat, .bool p.gone] 43) = w1 := ⟨_, rfl⟩
  have hb1 : Below w.heap.size w w1 := by rw [← hw1]; exact below_alloc _ _
  have hsz : w1.heap.size = w.heap.size + 1 := by rw [← hw1]; simp
  have bp : Bx w1 w.heap.size #[.int .i64 p.v.k, .int .i64 p.v.n, .string p.v.s, .int .i64 p.d.dev, .int .i64 p.d.seq, .int .i64 p.at_, .int .i64 p.tm, .int .i64 p.aft.dev, .int .i64 p.aft.seq, .int .i64 p.aat, .bool p.gone] 43 := by rw [← hw1]; exact bx_new rfl
  have HA := Lib.hid ha
  have HW := Lib.hid hw1
  have HB := Lib.hid hb1
  have HSZ := Lib.hid hsz
  have BP := Lib.hid bp
  obtain ⟨n, hln⟩ : ∃ n, l.length = n := ⟨_, rfl⟩
  have HLN := Lib.hid hln
  rw [hln] at hnc hn ⊢
  unfold maxLen at hcm
  clear ha hln hw1 hb1 bp hsz
  go_enter Try.func42, Try.ntmps42
  go_wp2_with fail
  rw [HW.out]
  go_loopw [5, 6, 7] (fun vo vd vi wr => ∃ (k : Nat) (d : Bool) (O : List Prt), k ≤ n ∧ vi = .int .i64 k ∧ vd = .bool d ∧ Hid (OwnP wr w1.heap.size vo O) ∧ Hid (O ++ putRQ p d (l.drop k) = putQ p l ∧ O.length ≤ k + d.toNat) ∧ Hid (Below w1.heap.size w1 wr)) (fun _ _ vi _ => n - (intOf vi).toNat)
  case atStart => exact ⟨0, false, [], Nat.zero_le _, rfl, rfl, World.ownsRow_nil _ _ _ _, ⟨rfl, by simp⟩, Below.refl _ _⟩
  case round =>
    obtain ⟨k, laid, O, hk, rfl, rfl, ho, heq, hbw⟩ := hrel
    rename World => wr
    have HLE : Hid (O.length ≤ 1001) := by have := heq.out.2; have := Bool.toNat_le laid; show _ ≤ _; omega
    have HLK := Lib.hid heq.out.2
    by_cases hlt : k < n
    · have hkl : k < l.length := by have := HLN.out; omega
      obtain ⟨x, hx⟩ : ∃ x, l[k] = x := ⟨_, rfl⟩
      obtain ⟨b, o, x1, c0, c1, c2, c3, c4, c5, c6, c7, c8, c9, c10, hbl⟩ := rd_prt HA.out rfl k hkl hx
      rw [HLN.out] at x1
      replace c0 := cell_later (below_then HB.out hbw.out) c0
      replace c1 := cell_later (below_then HB.out hbw.out) c1
      replace c2 := cell_later (below_then HB.out hbw.out) c2
      replace c3 := cell_later (below_then HB.out hbw.out) c3
      replace c4 := cell_later (below_then HB.out hbw.out) c4
      replace c5 := cell_later (below_then HB.out hbw.out) c5
      replace c6 := cell_later (below_then HB.out hbw.out) c6
      replace c7 := cell_later (below_then HB.out hbw.out) c7
      replace c8 := cell_later (below_then HB.out hbw.out) c8
      replace c9 := cell_later (below_then HB.out hbw.out) c9
      replace c10 := cell_later (below_then HB.out hbw.out) c10
      have hdr := List.drop_eq_getElem_cons hkl
      rw [hx] at hdr
      have heq' := heq.out.1
      rw [hdr] at heq'
      have HBL := Lib.hid hbl
      have bp := bx_later hbw.out BP.out
      have e0 := cell_of_box bp 0 rfl
      have e1 := cell_of_box bp 1 rfl
      have e2 := cell_of_box bp 2 rfl
      have e3 := cell_of_box bp 3 rfl
      have e4 := cell_of_box bp 4 rfl
      have e5 := cell_of_box bp 5 rfl
      have e6 := cell_of_box bp 6 rfl
      have e7 := cell_of_box bp 7 rfl
      have e8 := cell_of_box bp 8 rfl
      have e9 := cell_of_box bp 9 rfl
      have e10 := cell_of_box bp 10 rfl
      clear hx hdr bp hbl
      cases laid
      · cases hl : ltQ p x
        all_goals
          have HL := Lib.hid hl
        · rw [putRQ_miss hl] at heq'
          have HEQ := Lib.hid heq'
          clear heq' hl
          go_wp2_with fail
          refine wp_region_flow (by kernel_rfl) 10 [(8, ⟨fun v => v = .bool false, fun _ _ _ _ => True⟩)] (by kernel_rfl) ?_ ?_ ?_
          · intro x hx
            simp only [List.mem_cons, List.not_mem_nil, or_false] at hx
            subst hx
            exact ⟨_, rfl⟩
          · intro x hx v lo hi w w' h hb
            simp only [List.mem_cons, List.not_mem_nil, or_false] at hx
            subst hx
            exact trivial
          · intro lo hi
            have kc0 := cell_regrown c0
            have kc1 := cell_regrown c1
            have kc2 := cell_regrown c2
            have kc3 := cell_regrown c3
            have kc4 := cell_regrown c4
            have kc5 := cell_regrown c5
            have kc6 := cell_regrown c6
            have kc7 := cell_regrown c7
            have kc8 := cell_regrown c8
            have kc9 := cell_regrown c9
            have kc10 := cell_regrown c10
            have ke0 := cell_regrown e0
            have ke1 := cell_regrown e1
            have ke2 := cell_regrown e2
            have ke3 := cell_regrown e3
            have ke4 := cell_regrown e4
            have ke5 := cell_regrown e5
            have ke6 := cell_regrown e6
            have ke7 := cell_regrown e7
            have ke8 := cell_regrown e8
            have ke9 := cell_regrown e9
            have ke10 := cell_regrown e10
            refine flowW_plain rfl ?_
            go_big_quiet_step (fail)
            refine wpQuiet_nil ?_
            refine flowW_plain rfl ?_
            go_big_quiet_step (fail)
            refine wpQuiet_nil ?_
            refine flowW_plain rfl ?_
            go_big_quiet_step (fail)
            refine wpQuiet_nil ?_
            refine flowW_plain rfl ?_
            go_big_quiet_step (fail)
            refine wpQuiet_nil ?_
            refine flowW_plain rfl ?_
            go_big_quiet_step (fail)
            refine wpQuiet_nil ?_
            refine flowW_plain rfl ?_
            go_big_quiet_step (fail)
            refine wpQuiet_nil ?_
            refine flowW_plain rfl ?_
            go_big_quiet_step (fail)
            refine wpQuiet_nil ?_
            refine flowW_plain rfl ?_
            go_big_quiet_step (fail)
            refine wpQuiet_nil ?_
            refine flowW_call rfl rfl ?_ ?_
            · intro W hW hF K hK
              clear kc0 kc1 kc2 kc3 kc4 kc5 kc6 kc7 kc8 kc9 kc10 ke0 ke1 ke2 ke3 ke4 ke5 ke6 ke7 ke8 ke9 ke10
              go_wp2_with fail
              refine (behind_b false HL.out).mono ?_
              rintro e wq ⟨rfl, hbq⟩
              go_wp2_with fail
              exact hK _ _ rfl trivial hbq
            rintro v rfl K hK
            go_simp
            refine hK _ ?_
            clear hK K
            refine flowW_plain rfl ?_
            go_big_quiet_step (fail)
            refine wpQuiet_nil ?_
            refine flowW_end fun w3 hw3 hF hD => ?_
            clear kc0 kc1 kc2 kc3 kc4 kc5 kc6 kc7 kc8 kc9 kc10 ke0 ke1 ke2 ke3 ke4 ke5 ke6 ke7 ke8 ke9 ke10
            simp only [List.drop_succ_cons, List.drop_zero]
            have HB3 := Lib.hid (below_then hbw.out hw3)
            have HO3 := Lib.hid (own_later ho.out hw3)
            replace c0 := cell_later hw3 c0
            replace c1 := cell_later hw3 c1
            replace c2 := cell_later hw3 c2
            replace c3 := cell_later hw3 c3
            replace c4 := cell_later hw3 c4
            replace c5 := cell_later hw3 c5
            replace c6 := cell_later hw3 c6
            replace c7 := cell_later hw3 c7
            replace c8 := cell_later hw3 c8
            replace c9 := cell_later hw3 c9
            replace c10 := cell_later hw3 c10
            replace e0 := cell_later hw3 e0
            replace e1 := cell_later hw3 e1
            replace e2 := cell_later hw3 e2
            replace e3 := cell_later hw3 e3
            replace e4 := cell_later hw3 e4
            replace e5 := cell_later hw3 e5
            replace e6 := cell_later hw3 e6
            replace e7 := cell_later hw3 e7
            replace e8 := cell_later hw3 e8
            replace e9 := cell_later hw3 e9
            replace e10 := cell_later hw3 e10
            clear hw3 hF hD
            go_wp2_with (at_builtin; refine wpList_push elP rfl (.tmp 28) (.tmp 33) rfl rfl rfl HO3.out rfl rfl (by have := HLE.out; simp only [maxLen]; omega) (by have := HLE.out; omega) HB3.out.size ?_; intro v4 w4 own4 grow4 _blk4; have HO4 := Lib.hid (own_snocP (x := x) own4); have HB4 := Lib.hid (HB3.out.grown grow4 HB3.out.size (fun kk hk => (HO3.out.lt kk hk).1)); clear own4 grow4 _blk4)
            go_roundw
            case rel => exact ⟨k + 1, false, _, by omega, by go_num, rfl, HO4.out, ⟨by have := HEQ.out; rw [List.append_assoc]; exact this, by have := HLK.out; simp at *; omega⟩, HB4.out⟩
            case measure => simp [intOf]; omega
        · rw [putRQ_hit hl] at heq'
          have HEQ := Lib.hid heq'
          clear heq' hl
          go_wp2_with fail
          refine wp_region_flow (by kernel_rfl) 10 [(8, ⟨fun v => v = .bool true, fun _ _ _ _ => True⟩)] (by kernel_rfl) ?_ ?_ ?_
          · intro x hx
            simp only [List.mem_cons, List.not_mem_nil, or_false] at hx
            subst hx
            exact ⟨_, rfl⟩
          · intro x hx v lo hi w w' h hb
            simp only [List.mem_cons, List.not_mem_nil, or_false] at hx
            subst hx
            exact trivial
          · intro lo hi
            have kc0 := cell_regrown c0
            have kc1 := cell_regrown c1
            have kc2 := cell_regrown c2
            have kc3 := cell_regrown c3
            have kc4 := cell_regrown c4
            have kc5 := cell_regrown c5
            have kc6 := cell_regrown c6
            have kc7 := cell_regrown c7
            have kc8 := cell_regrown c8
            have kc9 := cell_regrown c9
            have kc10 := cell_regrown c10
            have ke0 := cell_regrown e0
            have ke1 := cell_regrown e1
            have ke2 := cell_regrown e2
            have ke3 := cell_regrown e3
            have ke4 := cell_regrown e4
            have ke5 := cell_regrown e5
            have ke6 := cell_regrown e6
            have ke7 := cell_regrown e7
            have ke8 := cell_regrown e8
            have ke9 := cell_regrown e9
            have ke10 := cell_regrown e10
            refine flowW_plain rfl ?_
            go_big_quiet_step (fail)
            refine wpQuiet_nil ?_
            refine flowW_plain rfl ?_
            go_big_quiet_step (fail)
            refine wpQuiet_nil ?_
            refine flowW_plain rfl ?_
            go_big_quiet_step (fail)
            refine wpQuiet_nil ?_
            refine flowW_plain rfl ?_
            go_big_quiet_step (fail)
            refine wpQuiet_nil ?_
            refine flowW_plain rfl ?_
            go_big_quiet_step (fail)
            refine wpQuiet_nil ?_
            refine flowW_plain rfl ?_
            go_big_quiet_step (fail)
            refine wpQuiet_nil ?_
            refine flowW_plain rfl ?_
            go_big_quiet_step (fail)
            refine wpQuiet_nil ?_
            refine flowW_plain rfl ?_
            go_big_quiet_step (fail)
            refine wpQuiet_nil ?_
            refine flowW_call rfl rfl ?_ ?_
            · intro W hW hF K hK
              clear kc0 kc1 kc2 kc3 kc4 kc5 kc6 kc7 kc8 kc9 kc10 ke0 ke1 ke2 ke3 ke4 ke5 ke6 ke7 ke8 ke9 ke10
              go_wp2_with fail
              refine (behind_b true HL.out).mono ?_
              rintro e wq ⟨rfl, hbq⟩
              go_wp2_with fail
              exact hK _ _ rfl trivial hbq
            rintro v rfl K hK
            go_simp
            refine hK _ ?_
            clear hK K
            refine flowW_plain rfl ?_
            go_big_quiet_step (fail)
            refine wpQuiet_nil ?_
            refine flowW_end fun w3 hw3 hF hD => ?_
            clear kc0 kc1 kc2 kc3 kc4 kc5 kc6 kc7 kc8 kc9 kc10 ke0 ke1 ke2 ke3 ke4 ke5 ke6 ke7 ke8 ke9 ke10
            simp only [List.drop_succ_cons, List.drop_zero]
            have HB3 := Lib.hid (below_then hbw.out hw3)
            have HO3 := Lib.hid (own_later ho.out hw3)
            replace c0 := cell_later hw3 c0
            replace c1 := cell_later hw3 c1
            replace c2 := cell_later hw3 c2
            replace c3 := cell_later hw3 c3
            replace c4 := cell_later hw3 c4
            replace c5 := cell_later hw3 c5
            replace c6 := cell_later hw3 c6
            replace c7 := cell_later hw3 c7
            replace c8 := cell_later hw3 c8
            replace c9 := cell_later hw3 c9
            replace c10 := cell_later hw3 c10
            replace e0 := cell_later hw3 e0
            replace e1 := cell_later hw3 e1
            replace e2 := cell_later hw3 e2
            replace e3 := cell_later hw3 e3
            replace e4 := cell_later hw3 e4
            replace e5 := cell_later hw3 e5
            replace e6 := cell_later hw3 e6
            replace e7 := cell_later hw3 e7
            replace e8 := cell_later hw3 e8
            replace e9 := cell_later hw3 e9
            replace e10 := cell_later hw3 e10
            clear hw3 hF hD
            go_wp2_with (at_builtin; first | (refine wpList_push elP rfl (.tmp 24) (.tmp 26) rfl rfl rfl HO3.out rfl rfl (by have := HLE.out; simp only [maxLen]; omega) (by have := HLE.out; omega) HB3.out.size ?_; intro v4 w4 own4 grow4 _blk4; have HO4 := Lib.hid (own_snocP (x := p) own4); have HB4 := Lib.hid (HB3.out.grown grow4 HB3.out.size (fun kk hk => (HO3.out.lt kk hk).1)); replace c0 := grown_cell grow4 c0 (fun e => by have := (HO3.out.lt b e).1; have := HBL.out; have := HSZ.out; omega); replace c1 := grown_cell grow4 c1 (fun e => by have := (HO3.out.lt b e).1; have := HBL.out; have := HSZ.out; omega); replace c2 := grown_cell grow4 c2 (fun e => by have := (HO3.out.lt b e).1; have := HBL.out; have := HSZ.out; omega); replace c3 := grown_cell grow4 c3 (fun e => by have := (HO3.out.lt b e).1; have := HBL.out; have := HSZ.out; omega); replace c4 := grown_cell grow4 c4 (fun e => by have := (HO3.out.lt b e).1; have := HBL.out; have := HSZ.out; omega); replace c5 := grown_cell grow4 c5 (fun e => by have := (HO3.out.lt b e).1; have := HBL.out; have := HSZ.out; omega); replace c6 := grown_cell grow4 c6 (fun e => by have := (HO3.out.lt b e).1; have := HBL.out; have := HSZ.out; omega); replace c7 := grown_cell grow4 c7 (fun e => by have := (HO3.out.lt b e).1; have := HBL.out; have := HSZ.out; omega); replace c8 := grown_cell grow4 c8 (fun e => by have := (HO3.out.lt b e).1; have := HBL.out; have := HSZ.out; omega); replace c9 := grown_cell grow4 c9 (fun e => by have := (HO3.out.lt b e).1; have := HBL.out; have := HSZ.out; omega); replace c10 := grown_cell grow4 c10 (fun e => by have := (HO3.out.lt b e).1; have := HBL.out; have := HSZ.out; omega); clear own4 grow4 _blk4) | (refine wpList_push elP rfl (.tmp 28) (.tmp 33) rfl rfl rfl HO4.out rfl rfl (by have := HLE.out; rw [List.length_append, List.length_singleton]; simp only [maxLen]; omega) (by have := HLE.out; rw [List.length_append, List.length_singleton]; omega) HB4.out.size ?_; intro v5 w5 own5 grow5 _blk5; have HO5 := Lib.hid (own_snocP (x := x) own5); have HB5 := Lib.hid (HB4.out.grown grow5 HB4.out.size (fun kk hk => (HO4.out.lt kk hk).1)); clear own5 grow5 _blk5))
            go_roundw
            case rel => exact ⟨k + 1, true, _, by omega, by go_num, rfl, HO5.out, ⟨by have := HEQ.out; rw [List.append_assoc, List.append_assoc]; exact this, by have := HLK.out; simp at *; omega⟩, HB5.out⟩
            case measure => simp [intOf]; omega
      · rw [putRQ_laid] at heq'
        have HEQ := Lib.hid heq'
        clear heq'
        go_wp2_with fail
        refine wp_region_flow (by kernel_rfl) 10 [(8, ⟨fun v => v = .bool true, fun _ _ _ _ => True⟩)] (by kernel_rfl) ?_ ?_ ?_
        · intro x hx
          simp only [List.mem_cons, List.not_mem_nil, or_false] at hx
          subst hx
          exact ⟨_, rfl⟩
        · intro x hx v lo hi w w' h hb
          simp only [List.mem_cons, List.not_mem_nil, or_false] at hx
          subst hx
          exact trivial
        · intro lo hi
          have kc0 := cell_regrown c0
          have kc1 := cell_regrown c1
          have kc2 := cell_regrown c2
          have kc3 := cell_regrown c3
          have kc4 := cell_regrown c4
          have kc5 := cell_regrown c5
          have kc6 := cell_regrown c6
          have kc7 := cell_regrown c7
          have kc8 := cell_regrown c8
          have kc9 := cell_regrown c9
          have kc10 := cell_regrown c10
          have ke0 := cell_regrown e0
          have ke1 := cell_regrown e1
          have ke2 := cell_regrown e2
          have ke3 := cell_regrown e3
          have ke4 := cell_regrown e4
          have ke5 := cell_regrown e5
          have ke6 := cell_regrown e6
          have ke7 := cell_regrown e7
          have ke8 := cell_regrown e8
          have ke9 := cell_regrown e9
          have ke10 := cell_regrown e10
          refine flowW_plain rfl ?_
          go_big_quiet_step (fail)
          refine wpQuiet_nil ?_
          refine flowW_plain rfl ?_
          go_big_quiet_step (fail)
          refine wpQuiet_nil ?_
          refine flowW_plain rfl ?_
          go_big_quiet_step (fail)
          refine wpQuiet_nil ?_
          refine flowW_skip rfl ?_
          go_big_quiet_step (fail)
          refine wpQuiet_nil ?_
          refine flowW_skip rfl ?_
          go_big_quiet_step (fail)
          refine wpQuiet_nil ?_
          refine flowW_skip rfl ?_
          go_big_quiet_step (fail)
          refine wpQuiet_nil ?_
          refine flowW_skip rfl ?_
          go_big_quiet_step (fail)
          refine wpQuiet_nil ?_
          refine flowW_skip rfl ?_
          go_big_quiet_step (fail)
          refine wpQuiet_nil ?_
          refine flowW_skip rfl ?_
          go_big_quiet_step (fail)
          refine wpQuiet_nil ?_
          refine flowW_plain rfl ?_
          go_big_quiet_step (fail)
          refine wpQuiet_nil ?_
          refine flowW_end fun w3 hw3 hF hD => ?_
          clear kc0 kc1 kc2 kc3 kc4 kc5 kc6 kc7 kc8 kc9 kc10 ke0 ke1 ke2 ke3 ke4 ke5 ke6 ke7 ke8 ke9 ke10
          simp only [List.drop_succ_cons, List.drop_zero]
          have HB3 := Lib.hid (below_then hbw.out hw3)
          have HO3 := Lib.hid (own_later ho.out hw3)
          replace c0 := cell_later hw3 c0
          replace c1 := cell_later hw3 c1
          replace c2 := cell_later hw3 c2
          replace c3 := cell_later hw3 c3
          replace c4 := cell_later hw3 c4
          replace c5 := cell_later hw3 c5
          replace c6 := cell_later hw3 c6
          replace c7 := cell_later hw3 c7
          replace c8 := cell_later hw3 c8
          replace c9 := cell_later hw3 c9
          replace c10 := cell_later hw3 c10
          replace e0 := cell_later hw3 e0
          replace e1 := cell_later hw3 e1
          replace e2 := cell_later hw3 e2
          replace e3 := cell_later hw3 e3
          replace e4 := cell_later hw3 e4
          replace e5 := cell_later hw3 e5
          replace e6 := cell_later hw3 e6
          replace e7 := cell_later hw3 e7
          replace e8 := cell_later hw3 e8
          replace e9 := cell_later hw3 e9
          replace e10 := cell_later hw3 e10
          clear hw3 hF hD
          go_wp2_with (at_builtin; refine wpList_push elP rfl (.tmp 28) (.tmp 33) rfl rfl rfl HO3.out rfl rfl (by have := HLE.out; simp only [maxLen]; omega) (by have := HLE.out; omega) HB3.out.size ?_; intro v4 w4 own4 grow4 _blk4; have HO4 := Lib.hid (own_snocP (x := x) own4); have HB4 := Lib.hid (HB3.out.grown grow4 HB3.out.size (fun kk hk => (HO3.out.lt kk hk).1)); clear own4 grow4 _blk4)
          go_roundw
          case rel => exact ⟨k + 1, true, _, by omega, by go_num, rfl, HO4.out, ⟨by have := HEQ.out; rw [List.append_assoc]; exact this, by have := HLK.out; simp at *; omega⟩, HB4.out⟩
          case measure => simp [intOf]; omega
    · have hkn : k = n := by omega
      subst hkn
      have heq' := heq.out.1
      rw [List.drop_of_length_le (by have := HLN.out; omega)] at heq'
      have bp := bx_later hbw.out BP.out
      have e0 := cell_of_box bp 0 rfl
      have e1 := cell_of_box bp 1 rfl
      have e2 := cell_of_box bp 2 rfl
      have e3 := cell_of_box bp 3 rfl
      have e4 := cell_of_box bp 4 rfl
      have e5 := cell_of_box bp 5 rfl
      have e6 := cell_of_box bp 6 rfl
      have e7 := cell_of_box bp 7 rfl
      have e8 := cell_of_box bp 8 rfl
      have e9 := cell_of_box bp 9 rfl
      have e10 := cell_of_box bp 10 rfl
      clear bp
      cases laid
      · rw [putRQ_end] at heq'
        have HEQ := Lib.hid heq'
        clear heq'
        go_wp2_with (at_builtin; refine wpList_push elP rfl (.tmp 37) (.tmp 39) rfl rfl rfl ho.out rfl rfl (by have := HLE.out; simp only [maxLen]; omega) (by have := HLE.out; omega) hbw.out.size ?_; intro v4 w4 own4 grow4 _blk4; have HO4 := Lib.hid (own_snocP (x := p) own4); have HB4 := Lib.hid (hbw.out.grown grow4 hbw.out.size (fun kk hk => (ho.out.lt kk hk).1)); clear own4 grow4 _blk4)
        go_ret
        exact ⟨_, rfl, by rw [← HEQ.out]; exact own_monoP HO4.out HB.out.size, below_then HB.out HB4.out⟩
      · have HEQ := Lib.hid heq'
        clear heq'
        go_wp2_with fail
        go_ret
        exact ⟨_, rfl, by rw [← HEQ.out]; show World.ownsRow _ _ _ _ _ _ _; unfold putRQ; simp only [if_true, List.append_nil]; exact own_monoP ho.out HB.out.size, below_then HB.out hbw.out⟩

/-- What the document's Join keeps in its loops: the box of what comes of it. -/
structure JnQ (w w1 wr : World) (O : List Prt) : Prop where
  box : ∃ a c, Bx wr (w.heap.size + 3) #[.int .i64 3, .int .i64 0, .int .i64 0, .string ⟨#[]⟩, .slice a O.length c] 26 ∧ OwnP wr w1.heap.size (.slice a O.length c) O
  but : But (fun j => j = w.heap.size + 3 ∨ w1.heap.size ≤ j) w1 wr

theorem JnQ.later {w w1 wr w2 : World} {O : List Prt} (h : JnQ w w1 wr O) (hb : Below wr.heap.size wr w2) : JnQ w w1 w2 O := by
  obtain ⟨⟨a, c, h1, h2⟩, h3⟩ := h
  exact ⟨⟨a, c, bx_later hb h1, own_later h2 hb⟩, h3.trans (But.of_below (S := fun _ => False) hb) (fun _ _ h => h.elim)⟩
theorem JnQ.put {w w1 w2 w3 : World} {O O' : List Prt} {v : Value} (hsz : w1.heap.size = w.heap.size + 4) (h : JnQ w w1 w2 O) (hb : Below w2.heap.size w2 w3) (ho : OwnP w3 w2.heap.size v O') :
    ∃ a c, v = .slice a O'.length c ∧ (∃ x y, Bx w3 (w.heap.size + 3) #[.int .i64 3, .int .i64 0, .int .i64 0, .string ⟨#[]⟩, .slice x O.length y] 26) ∧ JnQ w w1 (w3.setCell ⟨w.heap.size + 3, 4, none⟩ (.slice a O'.length c)) O' := by
  obtain ⟨a, c, rfl, _⟩ := Rd.of_own ho
  have h3 := h.later hb
  obtain ⟨⟨x, y, h1, _⟩, hbut⟩ := h3
  refine ⟨a, c, rfl, ⟨x, y, h1⟩, ⟨⟨a, c, bx_set4 h1 _, ?_⟩, hbut.set (.inl rfl) _⟩⟩
  exact own_setq (own_monoP ho h.but.size) (by omega) 4 _

theorem refHasV_c {vv : Value} {l : List Int} {d : Dt} {w : World} (b : Bool) (hb : hasV l d = b) (h : Rd w vv l.length (l.map ic)) :
    Calls Try.prog 18 #[vv, d.agg] w fun e w' => e = .returned (.bool b) ∧ Below w.heap.size w w' := hb ▸ refHasV_any vv l d w h
def JoinPostR (w : World) (l : List Prt) (e : Ending) (w' : World) : Prop :=
  ∃ v', e = .returned (.agg #[.int .i64 3, .int .i64 0, .int .i64 0, .string ⟨#[]⟩, v']) ∧ PRd w' v' l ∧ Below w.heap.size w w'

set_option maxRecDepth 100000 in
set_option maxHeartbeats 16000000 in
theorem brefJoin_any (k1 k2 : Int) (cv dv : Val) (va vb vk vl : Value) (a b : List Prt) (ka kb : List Int) (w : World) (ha : PRd w va a) (hb : PRd w vb b) (hk : Rd w vk ka.length (ka.map ic)) (hl : Rd w vl kb.length (kb.map ic)) (hn : a.length ≤ 400) (hm : b.length ≤ 400) :
    Calls Try.prog 14 #[.agg #[.int .i64 k1, .int .i64 cv.k, .int .i64 cv.n, .string cv.s, va], .agg #[.int .i64 k2, .int .i64 dv.k, .int .i64 dv.n, .string dv.s, vb], vk, vl] w (JoinPostR w (joinQ a b ka kb)) := by
  obtain ⟨ao, ac, rfl, hna, hca, _, _⟩ := id ha
  obtain ⟨bo, bc', rfl, hnb, hcb, _, _⟩ := id hb
  obtain ⟨ko, kc, rfl, _⟩ := id hk
  obtain ⟨lo, lc, rfl, _⟩ := id hl
  have HA := Lib.hid ha
  have HB_ := Lib.hid hb
  have HKA := Lib.hid hk
  have HKB := Lib.hid hl
  obtain ⟨n, hla⟩ : ∃ n, a.length = n := ⟨_, rfl⟩
  obtain ⟨m, hlb⟩ : ∃ m, b.length = m := ⟨_, rfl⟩
  have HLA := Lib.hid hla
  have HLB := Lib.hid hlb
  rw [hla] at hna hn
  rw [hlb] at hnb hm
  rw [hla, hlb]
  unfold maxLen at hca hcb
  clear ha hb hk hl hla hlb
  obtain ⟨w1, hw1⟩ : ∃ w1, (((w.alloc (.cells #[.int .i64 k1, .int .i64 cv.k, .int .i64 cv.n, .string cv.s, .slice ao n ac] 26)).alloc (.cells #[.int .i64 k2, .int .i64 dv.k, .int .i64 dv.n, .string dv.s, .slice bo m bc'] 26)).alloc (.cells #[.int .i64 0, .int .i64 0, .int .i64 0, .string ⟨#[]⟩, .slice none 0 0] 26)).alloc (.cells #[.int .i64 3, .int .i64 0, .int .i64 0, .string ⟨#[]⟩, .slice none 0 0] 26) = w1 := ⟨_, rfl⟩
  have hb1 : Below w.heap.size w w1 := by rw [← hw1]; exact below_alloc_then (below_alloc_then (below_alloc_then (below_alloc _ _)))
  have hsz : w1.heap.size = w.heap.size + 4 := by rw [← hw1]; simp
  have b0 : Bx w1 w.heap.size #[.int .i64 k1, .int .i64 cv.k, .int .i64 cv.n, .string cv.s, .slice ao n ac] 26 := by rw [← hw1]; exact bx_later (below_alloc_then (below_alloc_then (below_alloc _ _))) (bx_new (by simp))
  have b1 : Bx w1 (w.heap.size + 1) #[.int .i64 k2, .int .i64 dv.k, .int .i64 dv.n, .string dv.s, .slice bo m bc'] 26 := by rw [← hw1]; exact bx_later (below_alloc_then (below_alloc _ _)) (bx_new (by simp))
  have b2 : Bx w1 (w.heap.size + 2) #[.int .i64 0, .int .i64 0, .int .i64 0, .string ⟨#[]⟩, .slice none 0 0] 26 := by rw [← hw1]; exact bx_later (below_alloc _ _) (bx_new (by simp))
  have b3 : Bx w1 (w.heap.size + 3) #[.int .i64 3, .int .i64 0, .int .i64 0, .string ⟨#[]⟩, .slice none 0 0] 26 := by rw [← hw1]; exact bx_new (by simp)
  have HW := Lib.hid hw1
  have HBW1 := Lib.hid hb1
  have HSZ := Lib.hid hsz
  have B0 := Lib.hid b0
  have B1 := Lib.hid b1
  have B2 := Lib.hid b2
  have B3 := Lib.hid b3
  clear hw1 hb1 hsz b0 b1 b2 b3
  go_enter Try.func14, Try.ntmps14
  go_wp2_with fail
  rw [HW.out]
  go_loopw [10] (fun vi wr => ∃ k : Nat, k ≤ n ∧ vi = .int .i64 k ∧ Hid (JnQ w w1 wr (isortL ltQ ((a.take k).filter (keepQ b kb))))) (fun vi _ => n - (intOf vi).toNat)
  case atStart => exact ⟨0, Nat.zero_le _, rfl, ⟨⟨none, 0, B3.out, World.ownsRow_nil _ _ _ _⟩, But.refl _ _⟩⟩
  case round =>
    obtain ⟨k, hk, rfl, hR⟩ := hrel
    rename World => wr
    have hbut := hR.out.but
    have hbel : Below w.heap.size w wr := HBW1.out.trans (hbut.below HBW1.out.size fun kk hk => by have := HSZ.out; rcases hk with rfl | hk <;> omega)
    have hold : ∀ {q : Nat} {cs : Array Value} {T : TypeId}, q < w.heap.size + 3 → Bx w1 q cs T → Bx wr q cs T := fun hq h => hbut.blk h (by have := HSZ.out; omega)
    have y4 := cell_of_box (hold (by omega) B0.out) 4 rfl
    by_cases hlt : k < n
    · have hkl : k < a.length := by have := HLA.out; omega
      obtain ⟨x, hx⟩ : ∃ x, a[k] = x := ⟨_, rfl⟩
      obtain ⟨bb, oo, x1, c0, c1, c2, c3, c4, c5, c6, c7, c8, c9, c10, _⟩ := rd_prt HA.out rfl k hkl hx
      rw [HLA.out] at x1
      replace c0 := cell_later hbel c0
      replace c1 := cell_later hbel c1
      replace c2 := cell_later hbel c2
      replace c3 := cell_later hbel c3
      replace c4 := cell_later hbel c4
      replace c5 := cell_later hbel c5
      replace c6 := cell_later hbel c6
      replace c7 := cell_later hbel c7
      replace c8 := cell_later hbel c8
      replace c9 := cell_later hbel c9
      replace c10 := cell_later hbel c10
      have htk : (a.take (k + 1)).filter (keepQ b kb) = (a.take k).filter (keepQ b kb) ++ if keepQ b kb x then [x] else [] := by
        rw [List.take_succ_eq_append_getElem hkl, List.filter_append, hx]
        cases hq : keepQ b kb x <;> simp [hq]
      obtain ⟨O, hO⟩ : ∃ O, isortL ltQ ((a.take k).filter (keepQ b kb)) = O := ⟨_, rfl⟩
      have hol : O.length ≤ 1000 := by
        rw [← hO, isortL_length]
        exact Nat.le_trans (List.length_filter_le _ _) (by rw [List.length_take]; omega)
      have HOL := Lib.hid hol
      obtain ⟨O', hO'⟩ : ∃ O', putQ x O = O' := ⟨_, rfl⟩
      have HO' := Lib.hid hO'
      have HYES0 : Hid (keepQ b kb x = true → isortL ltQ ((a.take (k + 1)).filter (keepQ b kb)) = O') := fun h => by rw [htk, h, ← hO', ← hO, putQ_isort]; rfl
      have HNO0 : Hid (keepQ b kb x = false → isortL ltQ ((a.take (k + 1)).filter (keepQ b kb)) = O) := fun h => by rw [htk, h, ← hO]; simp
      have HR : Hid (JnQ w w1 wr O) := by rw [← hO]; exact hR.out
      have bxo := hold (by omega) B1.out
      have g0 := cell_of_box bxo 0 rfl
      have g1 := cell_of_box bxo 1 rfl
      have g2 := cell_of_box bxo 2 rfl
      have g3 := cell_of_box bxo 3 rfl
      have g4 := cell_of_box bxo 4 rfl
      have HOTH : Hid (PRd wr (.slice bo m bc') b) := by have := HB_.out.later hbel; rw [HLB.out] at this; show Rd _ _ _ _; rw [HLB.out]; exact this
      have HKD : Hid (keepQ b kb x = (inQ b x || !hasV kb x.d)) := (by show _ = _; rfl)
      have HBEL := Lib.hid hbel
      have HV2 := Lib.hid (HKB.out.later hbel)
      clear hx htk hO hO' hol bxo hold hR hbut hbel
      cases hh : inQ b x
      all_goals
        have HH := Lib.hid hh
        clear hh
      · cases hv : hasV kb x.d
        all_goals
          have HHV := Lib.hid hv
          clear hv
        · go_wp2_with fail
          refine wp_region_flow (by kernel_rfl) 19 [(7, ⟨fun v => v = .bool false, fun _ _ _ _ => True⟩), (16, ⟨fun v => v = .bool false, fun _ _ _ _ => True⟩)] (by kernel_rfl) ?_ ?_ ?_
          · intro x hx
            simp only [List.mem_cons, List.not_mem_nil, or_false] at hx
            rcases hx with rfl | rfl
            · exact ⟨_, rfl⟩
            · exact ⟨_, rfl⟩
          · intro x hx v lo hi w w' h hb
            simp only [List.mem_cons, List.not_mem_nil, or_false] at hx
            rcases hx with rfl | rfl
            · exact trivial
            · exact trivial
          · intro lo hi
            have ky4 := cell_regrown y4
            have kg4 := cell_regrown g4
            have kc0 := cell_regrown c0
            have kc1 := cell_regrown c1
            have kc2 := cell_regrown c2
            have kc3 := cell_regrown c3
            have kc4 := cell_regrown c4
            have kc5 := cell_regrown c5
            have kc6 := cell_regrown c6
            have kc7 := cell_regrown c7
            have kc8 := cell_regrown c8
            have kc9 := cell_regrown c9
            have kc10 := cell_regrown c10
            refine flowW_plain rfl ?_
            go_big_quiet_step (fail)
            refine wpQuiet_nil ?_
            refine flowW_plain rfl ?_
            go_big_quiet_step (fail)
            refine wpQuiet_nil ?_
            refine flowW_plain rfl ?_
            go_big_quiet_step (fail)
            refine wpQuiet_nil ?_
            refine flowW_plain rfl ?_
            go_big_quiet_step (fail)
            refine wpQuiet_nil ?_
            refine flowW_plain rfl ?_
            go_big_quiet_step (fail)
            refine wpQuiet_nil ?_
            refine flowW_plain rfl ?_
            go_big_quiet_step (fail)
            refine wpQuiet_nil ?_
            refine flowW_plain rfl ?_
            go_big_quiet_step (fail)
            refine wpQuiet_nil ?_
            refine flowW_call rfl rfl ?_ ?_
            · intro W hW hF K hK
              clear ky4 kg4 kc0 kc1 kc2 kc3 kc4 kc5 kc6 kc7 kc8 kc9 kc10
              go_wp2_with fail
              refine (refIn_b false HH.out (HOTH.out.later hW) (by have := HLA.out; have := HLB.out; omega)).mono ?_
              rintro e wq ⟨rfl, hbq⟩
              go_wp2_with fail
              exact hK _ _ rfl trivial hbq
            rintro v rfl K hK
            go_simp
            refine hK _ ?_
            clear hK K
            refine flowW_plain rfl ?_
            go_big_quiet_step (fail)
            refine wpQuiet_nil ?_
            refine flowW_plain rfl ?_
            go_big_quiet_step (fail)
            refine wpQuiet_nil ?_
            refine flowW_plain rfl ?_
            go_big_quiet_step (fail)
            refine wpQuiet_nil ?_
            refine flowW_plain rfl ?_
            go_big_quiet_step (fail)
            refine wpQuiet_nil ?_
            refine flowW_plain rfl ?_
            go_big_quiet_step (fail)
            refine wpQuiet_nil ?_
            refine flowW_plain rfl ?_
            go_big_quiet_step (fail)
            refine wpQuiet_nil ?_
            refine flowW_plain rfl ?_
            go_big_quiet_step (fail)
            refine wpQuiet_nil ?_
            refine flowW_plain rfl ?_
            go_big_quiet_step (fail)
            refine wpQuiet_nil ?_
            refine flowW_call rfl rfl ?_ ?_
            · intro W hW hF K hK
              clear ky4 kg4 kc0 kc1 kc2 kc3 kc4 kc5 kc6 kc7 kc8 kc9 kc10
              go_wp2_with fail
              refine (refHasV_c false HHV.out (HV2.out.later hW)).mono ?_
              rintro e wq ⟨rfl, hbq⟩
              go_wp2_with fail
              exact hK _ _ rfl trivial hbq
            rintro v rfl K hK
            go_simp
            refine hK _ ?_
            clear hK K
            refine flowW_plain rfl ?_
            go_big_quiet_step (fail)
            refine wpQuiet_nil ?_
            refine flowW_plain rfl ?_
            go_big_quiet_step (fail)
            refine wpQuiet_nil ?_
            refine flowW_end fun w2 hw2 hF hD => ?_
            clear ky4 kg4 kc0 kc1 kc2 kc3 kc4 kc5 kc6 kc7 kc8 kc9 kc10
            simp only [List.drop_succ_cons, List.drop_zero]
            have HB2 := Lib.hid hw2
            replace y4 := cell_later hw2 y4
            replace g4 := cell_later hw2 g4
            replace c0 := cell_later hw2 c0
            replace c1 := cell_later hw2 c1
            replace c2 := cell_later hw2 c2
            replace c3 := cell_later hw2 c3
            replace c4 := cell_later hw2 c4
            replace c5 := cell_later hw2 c5
            replace c6 := cell_later hw2 c6
            replace c7 := cell_later hw2 c7
            replace c8 := cell_later hw2 c8
            replace c9 := cell_later hw2 c9
            replace c10 := cell_later hw2 c10
            clear hw2 hF hD
            have HYES := Lib.hid (HYES0.out (by rw [HKD.out, HH.out, HHV.out]; rfl))
            have hr3 := HR.out.later HB2.out
            obtain ⟨⟨oa, oc, hbq, hown⟩, _⟩ := hr3
            have z4 := cell_of_box hbq 4 rfl
            have HOWN := Lib.hid hown
            have HR3 := Lib.hid (HR.out.later HB2.out)
            clear hown hbq
            go_wp2_with fail
            refine wp_region_flow (by kernel_rfl) 9 [(7, ⟨fun v => ∃ a k, v = .slice a O'.length k, fun v _ _ w' => ∃ a k, v = .slice a O'.length k ∧ OwnP w' w2.heap.size (.slice a O'.length k) O'⟩)] (by kernel_rfl) ?_ ?_ ?_
            · intro x hx
              simp only [List.mem_cons, List.not_mem_nil, or_false] at hx
              subst hx
              exact ⟨_, none, 0, rfl⟩
            · intro x hx v lo hi w w' h hb
              simp only [List.mem_cons, List.not_mem_nil, or_false] at hx
              subst hx
              obtain ⟨a, k, rfl, ho⟩ := h
              exact ⟨a, k, rfl, own_later ho hb⟩
            · intro lo hi
              have kz4 := cell_regrown z4
              have ky4 := cell_regrown y4
              have kc0 := cell_regrown c0
              have kc1 := cell_regrown c1
              have kc2 := cell_regrown c2
              have kc3 := cell_regrown c3
              have kc4 := cell_regrown c4
              have kc5 := cell_regrown c5
              have kc6 := cell_regrown c6
              have kc7 := cell_regrown c7
              have kc8 := cell_regrown c8
              have kc9 := cell_regrown c9
              have kc10 := cell_regrown c10
              refine flowW_plain rfl ?_
              go_big_quiet_step (fail)
              refine wpQuiet_nil ?_
              refine flowW_plain rfl ?_
              go_big_quiet_step (fail)
              refine wpQuiet_nil ?_
              refine flowW_plain rfl ?_
              go_big_quiet_step (fail)
              refine wpQuiet_nil ?_
              refine flowW_plain rfl ?_
              go_big_quiet_step (fail)
              refine wpQuiet_nil ?_
              refine flowW_plain rfl ?_
              go_big_quiet_step (fail)
              refine wpQuiet_nil ?_
              refine flowW_plain rfl ?_
              go_big_quiet_step (fail)
              refine wpQuiet_nil ?_
              refine flowW_plain rfl ?_
              go_big_quiet_step (fail)
              refine wpQuiet_nil ?_
              refine flowW_call rfl rfl ?_ ?_
              · intro W hW hF K hK
                clear kz4 ky4 kc0 kc1 kc2 kc3 kc4 kc5 kc6 kc7 kc8 kc9 kc10
                go_wp2_with fail
                refine (refPut_any (.slice oa O.length oc) O x W (Rd.of_own (own_later HOWN.out hW)) HOL.out).mono ?_
                rintro e wq ⟨v4, rfl, ho4, hb4⟩
                rw [HO'.out] at ho4
                obtain ⟨a4, k4, rfl, -⟩ := Rd.of_own ho4
                go_wp2_with fail
                exact hK _ _ ⟨a4, k4, rfl⟩ ⟨a4, k4, rfl, own_monoP ho4 hW.size⟩ hb4
              rintro v ⟨a7, k7, rfl⟩ K hK
              go_simp
              refine hK _ ?_
              clear hK K
              refine flowW_plain rfl ?_
              go_big_quiet_step (fail)
              refine wpQuiet_nil ?_
              refine flowW_end fun w4 hw4 hF hD => ?_
              clear kz4 ky4 kc0 kc1 kc2 kc3 kc4 kc5 kc6 kc7 kc8 kc9 kc10
              simp only [List.drop_succ_cons, List.drop_zero]
              obtain ⟨_, _, he, hown4⟩ := hF 7
              cases he
              obtain ⟨a4, c4, he, ⟨x4, y4', hbx4⟩, hj4⟩ := HR3.out.put HSZ.out hw4 hown4
              cases he
              have z5 := cell_of_box hbx4 4 rfl
              have f5 := frozen_of_box hbx4 4
              have HJ4 := Lib.hid hj4
              clear hown4 hbx4 hj4 hw4 hF hD
              go_wp2_with fail
              go_roundw
              case rel => exact ⟨k + 1, by omega, by go_num, by rw [HYES.out]; exact HJ4.out⟩
              case measure => simp [intOf]; omega
        · go_wp2_with fail
          refine wp_region_flow (by kernel_rfl) 19 [(7, ⟨fun v => v = .bool false, fun _ _ _ _ => True⟩), (16, ⟨fun v => v = .bool true, fun _ _ _ _ => True⟩)] (by kernel_rfl) ?_ ?_ ?_
          · intro x hx
            simp only [List.mem_cons, List.not_mem_nil, or_false] at hx
            rcases hx with rfl | rfl
            · exact ⟨_, rfl⟩
            · exact ⟨_, rfl⟩
          · intro x hx v lo hi w w' h hb
            simp only [List.mem_cons, List.not_mem_nil, or_false] at hx
            rcases hx with rfl | rfl
            · exact trivial
            · exact trivial
          · intro lo hi
            have ky4 := cell_regrown y4
            have kg4 := cell_regrown g4
            have kc0 := cell_regrown c0
            have kc1 := cell_regrown c1
            have kc2 := cell_regrown c2
            have kc3 := cell_regrown c3
            have kc4 := cell_regrown c4
            have kc5 := cell_regrown c5
            have kc6 := cell_regrown c6
            have kc7 := cell_regrown c7
            have kc8 := cell_regrown c8
            have kc9 := cell_regrown c9
            have kc10 := cell_regrown c10
            refine flowW_plain rfl ?_
            go_big_quiet_step (fail)
            refine wpQuiet_nil ?_
            refine flowW_plain rfl ?_
            go_big_quiet_step (fail)
            refine wpQuiet_nil ?_
            refine flowW_plain rfl ?_
            go_big_quiet_step (fail)
            refine wpQuiet_nil ?_
            refine flowW_plain rfl ?_
            go_big_quiet_step (fail)
            refine wpQuiet_nil ?_
            refine flowW_plain rfl ?_
            go_big_quiet_step (fail)
            refine wpQuiet_nil ?_
            refine flowW_plain rfl ?_
            go_big_quiet_step (fail)
            refine wpQuiet_nil ?_
            refine flowW_plain rfl ?_
            go_big_quiet_step (fail)
            refine wpQuiet_nil ?_
            refine flowW_call rfl rfl ?_ ?_
            · intro W hW hF K hK
              clear ky4 kg4 kc0 kc1 kc2 kc3 kc4 kc5 kc6 kc7 kc8 kc9 kc10
              go_wp2_with fail
              refine (refIn_b false HH.out (HOTH.out.later hW) (by have := HLA.out; have := HLB.out; omega)).mono ?_
              rintro e wq ⟨rfl, hbq⟩
              go_wp2_with fail
              exact hK _ _ rfl trivial hbq
            rintro v rfl K hK
            go_simp
            refine hK _ ?_
            clear hK K
            refine flowW_plain rfl ?_
            go_big_quiet_step (fail)
            refine wpQuiet_nil ?_
            refine flowW_plain rfl ?_
            go_big_quiet_step (fail)
            refine wpQuiet_nil ?_
            refine flowW_plain rfl ?_
            go_big_quiet_step (fail)
            refine wpQuiet_nil ?_
            refine flowW_plain rfl ?_
            go_big_quiet_step (fail)
            refine wpQuiet_nil ?_
            refine flowW_plain rfl ?_
            go_big_quiet_step (fail)
            refine wpQuiet_nil ?_
            refine flowW_plain rfl ?_
            go_big_quiet_step (fail)
            refine wpQuiet_nil ?_
            refine flowW_plain rfl ?_
            go_big_quiet_step (fail)
            refine wpQuiet_nil ?_
            refine flowW_plain rfl ?_
            go_big_quiet_step (fail)
            refine wpQuiet_nil ?_
            refine flowW_call rfl rfl ?_ ?_
            · intro W hW hF K hK
              clear ky4 kg4 kc0 kc1 kc2 kc3 kc4 kc5 kc6 kc7 kc8 kc9 kc10
              go_wp2_with fail
              refine (refHasV_c true HHV.out (HV2.out.later hW)).mono ?_
              rintro e wq ⟨rfl, hbq⟩
              go_wp2_with fail
              exact hK _ _ rfl trivial hbq
            rintro v rfl K hK
            go_simp
            refine hK _ ?_
            clear hK K
            refine flowW_plain rfl ?_
            go_big_quiet_step (fail)
            refine wpQuiet_nil ?_
            refine flowW_plain rfl ?_
            go_big_quiet_step (fail)
            refine wpQuiet_nil ?_
            refine flowW_end fun w2 hw2 hF hD => ?_
            clear ky4 kg4 kc0 kc1 kc2 kc3 kc4 kc5 kc6 kc7 kc8 kc9 kc10
            simp only [List.drop_succ_cons, List.drop_zero]
            have HB2 := Lib.hid hw2
            replace y4 := cell_later hw2 y4
            replace g4 := cell_later hw2 g4
            replace c0 := cell_later hw2 c0
            replace c1 := cell_later hw2 c1
            replace c2 := cell_later hw2 c2
            replace c3 := cell_later hw2 c3
            replace c4 := cell_later hw2 c4
            replace c5 := cell_later hw2 c5
            replace c6 := cell_later hw2 c6
            replace c7 := cell_later hw2 c7
            replace c8 := cell_later hw2 c8
            replace c9 := cell_later hw2 c9
            replace c10 := cell_later hw2 c10
            clear hw2 hF hD
            have HNO := Lib.hid (HNO0.out (by rw [HKD.out, HH.out, HHV.out]; rfl))
            go_wp2_with fail
            go_roundw
            case rel => exact ⟨k + 1, by omega, by go_num, by rw [HNO.out]; exact HR.out.later HB2.out⟩
            case measure => simp [intOf]; omega
      · go_wp2_with fail
        refine wp_region_flow (by kernel_rfl) 19 [(7, ⟨fun v => v = .bool true, fun _ _ _ _ => True⟩), (16, ⟨fun v => v = .bool true, fun _ _ _ _ => True⟩)] (by kernel_rfl) ?_ ?_ ?_
        · intro x hx
          simp only [List.mem_cons, List.not_mem_nil, or_false] at hx
          rcases hx with rfl | rfl
          · exact ⟨_, rfl⟩
          · exact ⟨_, rfl⟩
        · intro x hx v lo hi w w' h hb
          simp only [List.mem_cons, List.not_mem_nil, or_false] at hx
          rcases hx with rfl | rfl
          · exact trivial
          · exact trivial
        · intro lo hi
          have ky4 := cell_regrown y4
          have kg4 := cell_regrown g4
          have kc0 := cell_regrown c0
          have kc1 := cell_regrown c1
          have kc2 := cell_regrown c2
          have kc3 := cell_regrown c3
          have kc4 := cell_regrown c4
          have kc5 := cell_regrown c5
          have kc6 := cell_regrown c6
          have kc7 := cell_regrown c7
          have kc8 := cell_regrown c8
          have kc9 := cell_regrown c9
          have kc10 := cell_regrown c10
          refine flowW_plain rfl ?_
          go_big_quiet_step (fail)
          refine wpQuiet_nil ?_
          refine flowW_plain rfl ?_
          go_big_quiet_step (fail)
          refine wpQuiet_nil ?_
          refine flowW_plain rfl ?_
          go_big_quiet_step (fail)
          refine wpQuiet_nil ?_
          refine flowW_plain rfl ?_
          go_big_quiet_step (fail)
          refine wpQuiet_nil ?_
          refine flowW_plain rfl ?_
          go_big_quiet_step (fail)
          refine wpQuiet_nil ?_
          refine flowW_plain rfl ?_
          go_big_quiet_step (fail)
          refine wpQuiet_nil ?_
          refine flowW_plain rfl ?_
          go_big_quiet_step (fail)
          refine wpQuiet_nil ?_
          refine flowW_call rfl rfl ?_ ?_
          · intro W hW hF K hK
            clear ky4 kg4 kc0 kc1 kc2 kc3 kc4 kc5 kc6 kc7 kc8 kc9 kc10
            go_wp2_with fail
            refine (refIn_b true HH.out (HOTH.out.later hW) (by have := HLA.out; have := HLB.out; omega)).mono ?_
            rintro e wq ⟨rfl, hbq⟩
            go_wp2_with fail
            exact hK _ _ rfl trivial hbq
          rintro v rfl K hK
          go_simp
          refine hK _ ?_
          clear hK K
          refine flowW_plain rfl ?_
          go_big_quiet_step (fail)
          refine wpQuiet_nil ?_
          refine flowW_skip rfl ?_
          go_big_quiet_step (fail)
          refine wpQuiet_nil ?_
          refine flowW_skip rfl ?_
          go_big_quiet_step (fail)
          refine wpQuiet_nil ?_
          refine flowW_skip rfl ?_
          go_big_quiet_step (fail)
          refine wpQuiet_nil ?_
          refine flowW_skip rfl ?_
          go_big_quiet_step (fail)
          refine wpQuiet_nil ?_
          refine flowW_skip rfl ?_
          go_big_quiet_step (fail)
          refine wpQuiet_nil ?_
          refine flowW_skip rfl ?_
          go_big_quiet_step (fail)
          refine wpQuiet_nil ?_
          refine flowW_skip rfl ?_
          go_big_quiet_step (fail)
          refine wpQuiet_nil ?_
          refine flowW_skip rfl ?_
          go_big_quiet_step (fail)
          refine wpQuiet_nil ?_
          refine flowW_skip rfl ?_
          go_big_quiet_step (fail)
          refine wpQuiet_nil ?_
          refine flowW_plain rfl ?_
          go_big_quiet_step (fail)
          refine wpQuiet_nil ?_
          refine flowW_end fun w2 hw2 hF hD => ?_
          clear ky4 kg4 kc0 kc1 kc2 kc3 kc4 kc5 kc6 kc7 kc8 kc9 kc10
          simp only [List.drop_succ_cons, List.drop_zero]
          have HB2 := Lib.hid hw2
          replace y4 := cell_later hw2 y4
          replace g4 := cell_later hw2 g4
          replace c0 := cell_later hw2 c0
          replace c1 := cell_later hw2 c1
          replace c2 := cell_later hw2 c2
          replace c3 := cell_later hw2 c3
          replace c4 := cell_later hw2 c4
          replace c5 := cell_later hw2 c5
          replace c6 := cell_later hw2 c6
          replace c7 := cell_later hw2 c7
          replace c8 := cell_later hw2 c8
          replace c9 := cell_later hw2 c9
          replace c10 := cell_later hw2 c10
          clear hw2 hF hD
          have HYES := Lib.hid (HYES0.out (by rw [HKD.out, HH.out]; rfl))
          have hr3 := HR.out.later HB2.out
          obtain ⟨⟨oa, oc, hbq, hown⟩, _⟩ := hr3
          have z4 := cell_of_box hbq 4 rfl
          have HOWN := Lib.hid hown
          have HR3 := Lib.hid (HR.out.later HB2.out)
          clear hown hbq
          go_wp2_with fail
          refine wp_region_flow (by kernel_rfl) 9 [(7, ⟨fun v => ∃ a k, v = .slice a O'.length k, fun v _ _ w' => ∃ a k, v = .slice a O'.length k ∧ OwnP w' w2.heap.size (.slice a O'.length k) O'⟩)] (by kernel_rfl) ?_ ?_ ?_
          · intro x hx
            simp only [List.mem_cons, List.not_mem_nil, or_false] at hx
            subst hx
            exact ⟨_, none, 0, rfl⟩
          · intro x hx v lo hi w w' h hb
            simp only [List.mem_cons, List.not_mem_nil, or_false] at hx
            subst hx
            obtain ⟨a, k, rfl, ho⟩ := h
            exact ⟨a, k, rfl, own_later ho hb⟩
          · intro lo hi
            have kz4 := cell_regrown z4
            have ky4 := cell_regrown y4
            have kc0 := cell_regrown c0
            have kc1 := cell_regrown c1
            have kc2 := cell_regrown c2
            have kc3 := cell_regrown c3
            have kc4 := cell_regrown c4
            have kc5 := cell_regrown c5
            have kc6 := cell_regrown c6
            have kc7 := cell_regrown c7
            have kc8 := cell_regrown c8
            have kc9 := cell_regrown c9
            have kc10 := cell_regrown c10
            refine flowW_plain rfl ?_
            go_big_quiet_step (fail)
            refine wpQuiet_nil ?_
            refine flowW_plain rfl ?_
            go_big_quiet_step (fail)
            refine wpQuiet_nil ?_
            refine flowW_plain rfl ?_
            go_big_quiet_step (fail)
            refine wpQuiet_nil ?_
            refine flowW_plain rfl ?_
            go_big_quiet_step (fail)
            refine wpQuiet_nil ?_
            refine flowW_plain rfl ?_
            go_big_quiet_step (fail)
            refine wpQuiet_nil ?_
            refine flowW_plain rfl ?_
            go_big_quiet_step (fail)
            refine wpQuiet_nil ?_
            refine flowW_plain rfl ?_
            go_big_quiet_step (fail)
            refine wpQuiet_nil ?_
            refine flowW_call rfl rfl ?_ ?_
            · intro W hW hF K hK
              clear kz4 ky4 kc0 kc1 kc2 kc3 kc4 kc5 kc6 kc7 kc8 kc9 kc10
              go_wp2_with fail
              refine (refPut_any (.slice oa O.length oc) O x W (Rd.of_own (own_later HOWN.out hW)) HOL.out).mono ?_
              rintro e wq ⟨v4, rfl, ho4, hb4⟩
              rw [HO'.out] at ho4
              obtain ⟨a4, k4, rfl, -⟩ := Rd.of_own ho4
              go_wp2_with fail
              exact hK _ _ ⟨a4, k4, rfl⟩ ⟨a4, k4, rfl, own_monoP ho4 hW.size⟩ hb4
            rintro v ⟨a7, k7, rfl⟩ K hK
            go_simp
            refine hK _ ?_
            clear hK K
            refine flowW_plain rfl ?_
            go_big_quiet_step (fail)
            refine wpQuiet_nil ?_
            refine flowW_end fun w4 hw4 hF hD => ?_
            clear kz4 ky4 kc0 kc1 kc2 kc3 kc4 kc5 kc6 kc7 kc8 kc9 kc10
            simp only [List.drop_succ_cons, List.drop_zero]
            obtain ⟨_, _, he, hown4⟩ := hF 7
            cases he
            obtain ⟨a4, c4, he, ⟨x4, y4', hbx4⟩, hj4⟩ := HR3.out.put HSZ.out hw4 hown4
            cases he
            have z5 := cell_of_box hbx4 4 rfl
            have f5 := frozen_of_box hbx4 4
            have HJ4 := Lib.hid hj4
            clear hown4 hbx4 hj4 hw4 hF hD
            go_wp2_with fail
            go_roundw
            case rel => exact ⟨k + 1, by omega, by go_num, by rw [HYES.out]; exact HJ4.out⟩
            case measure => simp [intOf]; omega
    · have hkn : n = k := by omega
      subst hkn
      have HR1 : Hid (JnQ w w1 wr (isortL ltQ (a.filter (keepQ b kb)))) := by have := hR.out; rwa [List.take_of_length_le (l := a) (by have := HLA.out; omega)] at this
      clear hbut hbel hold hR
      go_wp2_with fail
      go_loopw [11] (fun vi wr => ∃ k : Nat, k ≤ m ∧ vi = .int .i64 k ∧ Hid (JnQ w w1 wr (isortL ltQ (a.filter (keepQ b kb) ++ (b.take k).filter (keepQ2 a ka))))) (fun vi _ => m - (intOf vi).toNat)
      case atStart => exact ⟨0, Nat.zero_le _, rfl, by have := HR1.out; rw [show a.filter (keepQ b kb) ++ (b.take 0).filter (keepQ2 a ka) = a.filter (keepQ b kb) by simp]; exact this⟩
      case round =>
        obtain ⟨k, hk, rfl, hR⟩ := hrel
        rename World => wr
        have hbut := hR.out.but
        have hbel : Below w.heap.size w wr := HBW1.out.trans (hbut.below HBW1.out.size fun kk hk => by have := HSZ.out; rcases hk with rfl | hk <;> omega)
        have hold : ∀ {q : Nat} {cs : Array Value} {T : TypeId}, q < w.heap.size + 3 → Bx w1 q cs T → Bx wr q cs T := fun hq h => hbut.blk h (by have := HSZ.out; omega)
        have y4 := cell_of_box (hold (by omega) B1.out) 4 rfl
        by_cases hlt : k < m
        · have hkl : k < b.length := by have := HLB.out; omega
          obtain ⟨x, hx⟩ : ∃ x, b[k] = x := ⟨_, rfl⟩
          obtain ⟨bb, oo, x1, c0, c1, c2, c3, c4, c5, c6, c7, c8, c9, c10, _⟩ := rd_prt HB_.out rfl k hkl hx
          rw [HLB.out] at x1
          replace c0 := cell_later hbel c0
          replace c1 := cell_later hbel c1
          replace c2 := cell_later hbel c2
          replace c3 := cell_later hbel c3
          replace c4 := cell_later hbel c4
          replace c5 := cell_later hbel c5
          replace c6 := cell_later hbel c6
          replace c7 := cell_later hbel c7
          replace c8 := cell_later hbel c8
          replace c9 := cell_later hbel c9
          replace c10 := cell_later hbel c10
          have htk : a.filter (keepQ b kb) ++ (b.take (k + 1)).filter (keepQ2 a ka) = a.filter (keepQ b kb) ++ (b.take k).filter (keepQ2 a ka) ++ if keepQ2 a ka x then [x] else [] := by
            rw [List.take_succ_eq_append_getElem hkl, List.filter_append, hx]
            cases hq : keepQ2 a ka x <;> simp [hq]
          obtain ⟨O, hO⟩ : ∃ O, isortL ltQ (a.filter (keepQ b kb) ++ (b.take k).filter (keepQ2 a ka)) = O := ⟨_, rfl⟩
          have hol : O.length ≤ 1000 := by
            rw [← hO, isortL_length]
            rw [List.length_append]
            have h1 := List.length_filter_le (keepQ b kb) a
            have h2 := Nat.le_trans (List.length_filter_le (keepQ2 a ka) (b.take k)) (by rw [List.length_take]; exact Nat.min_le_left _ _)
            have := HLA.out
            omega
          have HOL := Lib.hid hol
          obtain ⟨O', hO'⟩ : ∃ O', putQ x O = O' := ⟨_, rfl⟩
          have HO' := Lib.hid hO'
          have HYES0 : Hid (keepQ2 a ka x = true → isortL ltQ (a.filter (keepQ b kb) ++ (b.take (k + 1)).filter (keepQ2 a ka)) = O') := fun h => by rw [htk, h, ← hO', ← hO, putQ_isort]; rfl
          have HNO0 : Hid (keepQ2 a ka x = false → isortL ltQ (a.filter (keepQ b kb) ++ (b.take (k + 1)).filter (keepQ2 a ka)) = O) := fun h => by rw [htk, h, ← hO]; simp
          have HR : Hid (JnQ w w1 wr O) := by rw [← hO]; exact hR.out
          have bxo := hold (by omega) B0.out
          have g0 := cell_of_box bxo 0 rfl
          have g1 := cell_of_box bxo 1 rfl
          have g2 := cell_of_box bxo 2 rfl
          have g3 := cell_of_box bxo 3 rfl
          have g4 := cell_of_box bxo 4 rfl
          have HOTH : Hid (PRd wr (.slice ao n ac) a) := by have := HA.out.later hbel; rw [HLA.out] at this; show Rd _ _ _ _; rw [HLA.out]; exact this
          have HKD : Hid (keepQ2 a ka x = (!inQ a x && !hasV ka x.d)) := (by show _ = _; rfl)
          have HBEL := Lib.hid hbel
          have HV2 := Lib.hid (HKA.out.later hbel)
          clear hx htk hO hO' hol bxo hold hR hbut hbel
          cases hh : inQ a x
          all_goals
            have HH := Lib.hid hh
            clear hh
          · cases hv : hasV ka x.d
            all_goals
              have HHV := Lib.hid hv
              clear hv
            · go_wp2_with fail
              refine wp_region_flow (by kernel_rfl) 20 [(7, ⟨fun v => v = .bool false, fun _ _ _ _ => True⟩), (17, ⟨fun v => v = .bool false, fun _ _ _ _ => True⟩)] (by kernel_rfl) ?_ ?_ ?_
              · intro x hx
                simp only [List.mem_cons, List.not_mem_nil, or_false] at hx
                rcases hx with rfl | rfl
                · exact ⟨_, rfl⟩
                · exact ⟨_, rfl⟩
              · intro x hx v lo hi w w' h hb
                simp only [List.mem_cons, List.not_mem_nil, or_false] at hx
                rcases hx with rfl | rfl
                · exact trivial
                · exact trivial
              · intro lo hi
                have ky4 := cell_regrown y4
                have kg4 := cell_regrown g4
                have kc0 := cell_regrown c0
                have kc1 := cell_regrown c1
                have kc2 := cell_regrown c2
                have kc3 := cell_regrown c3
                have kc4 := cell_regrown c4
                have kc5 := cell_regrown c5
                have kc6 := cell_regrown c6
                have kc7 := cell_regrown c7
                have kc8 := cell_regrown c8
                have kc9 := cell_regrown c9
                have kc10 := cell_regrown c10
                refine flowW_plain rfl ?_
                go_big_quiet_step (fail)
                refine wpQuiet_nil ?_
                refine flowW_plain rfl ?_
                go_big_quiet_step (fail)
                refine wpQuiet_nil ?_
                refine flowW_plain rfl ?_
                go_big_quiet_step (fail)
                refine wpQuiet_nil ?_
                refine flowW_plain rfl ?_
                go_big_quiet_step (fail)
                refine wpQuiet_nil ?_
                refine flowW_plain rfl ?_
                go_big_quiet_step (fail)
                refine wpQuiet_nil ?_
                refine flowW_plain rfl ?_
                go_big_quiet_step (fail)
                refine wpQuiet_nil ?_
                refine flowW_plain rfl ?_
                go_big_quiet_step (fail)
                refine wpQuiet_nil ?_
                refine flowW_call rfl rfl ?_ ?_
                · intro W hW hF K hK
                  clear ky4 kg4 kc0 kc1 kc2 kc3 kc4 kc5 kc6 kc7 kc8 kc9 kc10
                  go_wp2_with fail
                  refine (refIn_b false HH.out (HOTH.out.later hW) (by have := HLA.out; have := HLB.out; omega)).mono ?_
                  rintro e wq ⟨rfl, hbq⟩
                  go_wp2_with fail
                  exact hK _ _ rfl trivial hbq
                rintro v rfl K hK
                go_simp
                refine hK _ ?_
                clear hK K
                refine flowW_plain rfl ?_
                go_big_quiet_step (fail)
                refine wpQuiet_nil ?_
                refine flowW_plain rfl ?_
                go_big_quiet_step (fail)
                refine wpQuiet_nil ?_
                refine flowW_plain rfl ?_
                go_big_quiet_step (fail)
                refine wpQuiet_nil ?_
                refine flowW_plain rfl ?_
                go_big_quiet_step (fail)
                refine wpQuiet_nil ?_
                refine flowW_plain rfl ?_
                go_big_quiet_step (fail)
                refine wpQuiet_nil ?_
                refine flowW_plain rfl ?_
                go_big_quiet_step (fail)
                refine wpQuiet_nil ?_
                refine flowW_plain rfl ?_
                go_big_quiet_step (fail)
                refine wpQuiet_nil ?_
                refine flowW_plain rfl ?_
                go_big_quiet_step (fail)
                refine wpQuiet_nil ?_
                refine flowW_plain rfl ?_
                go_big_quiet_step (fail)
                refine wpQuiet_nil ?_
                refine flowW_call rfl rfl ?_ ?_
                · intro W hW hF K hK
                  clear ky4 kg4 kc0 kc1 kc2 kc3 kc4 kc5 kc6 kc7 kc8 kc9 kc10
                  go_wp2_with fail
                  refine (refHasV_c false HHV.out (HV2.out.later hW)).mono ?_
                  rintro e wq ⟨rfl, hbq⟩
                  go_wp2_with fail
                  exact hK _ _ rfl trivial hbq
                rintro v rfl K hK
                go_simp
                refine hK _ ?_
                clear hK K
                refine flowW_plain rfl ?_
                go_big_quiet_step (fail)
                refine wpQuiet_nil ?_
                refine flowW_plain rfl ?_
                go_big_quiet_step (fail)
                refine wpQuiet_nil ?_
                refine flowW_end fun w2 hw2 hF hD => ?_
                clear ky4 kg4 kc0 kc1 kc2 kc3 kc4 kc5 kc6 kc7 kc8 kc9 kc10
                simp only [List.drop_succ_cons, List.drop_zero]
                have HB2 := Lib.hid hw2
                replace y4 := cell_later hw2 y4
                replace g4 := cell_later hw2 g4
                replace c0 := cell_later hw2 c0
                replace c1 := cell_later hw2 c1
                replace c2 := cell_later hw2 c2
                replace c3 := cell_later hw2 c3
                replace c4 := cell_later hw2 c4
                replace c5 := cell_later hw2 c5
                replace c6 := cell_later hw2 c6
                replace c7 := cell_later hw2 c7
                replace c8 := cell_later hw2 c8
                replace c9 := cell_later hw2 c9
                replace c10 := cell_later hw2 c10
                clear hw2 hF hD
                have HYES := Lib.hid (HYES0.out (by rw [HKD.out, HH.out, HHV.out]; rfl))
                have hr3 := HR.out.later HB2.out
                obtain ⟨⟨oa, oc, hbq, hown⟩, _⟩ := hr3
                have z4 := cell_of_box hbq 4 rfl
                have HOWN := Lib.hid hown
                have HR3 := Lib.hid (HR.out.later HB2.out)
                clear hown hbq
                go_wp2_with fail
                refine wp_region_flow (by kernel_rfl) 9 [(7, ⟨fun v => ∃ a k, v = .slice a O'.length k, fun v _ _ w' => ∃ a k, v = .slice a O'.length k ∧ OwnP w' w2.heap.size (.slice a O'.length k) O'⟩)] (by kernel_rfl) ?_ ?_ ?_
                · intro x hx
                  simp only [List.mem_cons, List.not_mem_nil, or_false] at hx
                  subst hx
                  exact ⟨_, none, 0, rfl⟩
                · intro x hx v lo hi w w' h hb
                  simp only [List.mem_cons, List.not_mem_nil, or_false] at hx
                  subst hx
                  obtain ⟨a, k, rfl, ho⟩ := h
                  exact ⟨a, k, rfl, own_later ho hb⟩
                · intro lo hi
                  have kz4 := cell_regrown z4
                  have ky4 := cell_regrown y4
                  have kc0 := cell_regrown c0
                  have kc1 := cell_regrown c1
                  have kc2 := cell_regrown c2
                  have kc3 := cell_regrown c3
                  have kc4 := cell_regrown c4
                  have kc5 := cell_regrown c5
                  have kc6 := cell_regrown c6
                  have kc7 := cell_regrown c7
                  have kc8 := cell_regrown c8
                  have kc9 := cell_regrown c9
                  have kc10 := cell_regrown c10
                  refine flowW_plain rfl ?_
                  go_big_quiet_step (fail)
                  refine wpQuiet_nil ?_
                  refine flowW_plain rfl ?_
                  go_big_quiet_step (fail)
                  refine wpQuiet_nil ?_
                  refine flowW_plain rfl ?_
                  go_big_quiet_step (fail)
                  refine wpQuiet_nil ?_
                  refine flowW_plain rfl ?_
                  go_big_quiet_step (fail)
                  refine wpQuiet_nil ?_
                  refine flowW_plain rfl ?_
                  go_big_quiet_step (fail)
                  refine wpQuiet_nil ?_
                  refine flowW_plain rfl ?_
                  go_big_quiet_step (fail)
                  refine wpQuiet_nil ?_
                  refine flowW_plain rfl ?_
                  go_big_quiet_step (fail)
                  refine wpQuiet_nil ?_
                  refine flowW_call rfl rfl ?_ ?_
                  · intro W hW hF K hK
                    clear kz4 ky4 kc0 kc1 kc2 kc3 kc4 kc5 kc6 kc7 kc8 kc9 kc10
                    go_wp2_with fail
                    refine (refPut_any (.slice oa O.length oc) O x W (Rd.of_own (own_later HOWN.out hW)) HOL.out).mono ?_
                    rintro e wq ⟨v4, rfl, ho4, hb4⟩
                    rw [HO'.out] at ho4
                    obtain ⟨a4, k4, rfl, -⟩ := Rd.of_own ho4
                    go_wp2_with fail
                    exact hK _ _ ⟨a4, k4, rfl⟩ ⟨a4, k4, rfl, own_monoP ho4 hW.size⟩ hb4
                  rintro v ⟨a7, k7, rfl⟩ K hK
                  go_simp
                  refine hK _ ?_
                  clear hK K
                  refine flowW_plain rfl ?_
                  go_big_quiet_step (fail)
                  refine wpQuiet_nil ?_
                  refine flowW_end fun w4 hw4 hF hD => ?_
                  clear kz4 ky4 kc0 kc1 kc2 kc3 kc4 kc5 kc6 kc7 kc8 kc9 kc10
                  simp only [List.drop_succ_cons, List.drop_zero]
                  obtain ⟨_, _, he, hown4⟩ := hF 7
                  cases he
                  obtain ⟨a4, c4, he, ⟨x4, y4', hbx4⟩, hj4⟩ := HR3.out.put HSZ.out hw4 hown4
                  cases he
                  have z5 := cell_of_box hbx4 4 rfl
                  have f5 := frozen_of_box hbx4 4
                  have HJ4 := Lib.hid hj4
                  clear hown4 hbx4 hj4 hw4 hF hD
                  go_wp2_with fail
                  go_roundw
                  case rel => exact ⟨k + 1, by omega, by go_num, by rw [HYES.out]; exact HJ4.out⟩
                  case measure => simp [intOf]; omega
            · go_wp2_with fail
              refine wp_region_flow (by kernel_rfl) 20 [(7, ⟨fun v => v = .bool false, fun _ _ _ _ => True⟩), (17, ⟨fun v => v = .bool true, fun _ _ _ _ => True⟩)] (by kernel_rfl) ?_ ?_ ?_
              · intro x hx
                simp only [List.mem_cons, List.not_mem_nil, or_false] at hx
                rcases hx with rfl | rfl
                · exact ⟨_, rfl⟩
                · exact ⟨_, rfl⟩
              · intro x hx v lo hi w w' h hb
                simp only [List.mem_cons, List.not_mem_nil, or_false] at hx
                rcases hx with rfl | rfl
                · exact trivial
                · exact trivial
              · intro lo hi
                have ky4 := cell_regrown y4
                have kg4 := cell_regrown g4
                have kc0 := cell_regrown c0
                have kc1 := cell_regrown c1
                have kc2 := cell_regrown c2
                have kc3 := cell_regrown c3
                have kc4 := cell_regrown c4
                have kc5 := cell_regrown c5
                have kc6 := cell_regrown c6
                have kc7 := cell_regrown c7
                have kc8 := cell_regrown c8
                have kc9 := cell_regrown c9
                have kc10 := cell_regrown c10
                refine flowW_plain rfl ?_
                go_big_quiet_step (fail)
                refine wpQuiet_nil ?_
                refine flowW_plain rfl ?_
                go_big_quiet_step (fail)
                refine wpQuiet_nil ?_
                refine flowW_plain rfl ?_
                go_big_quiet_step (fail)
                refine wpQuiet_nil ?_
                refine flowW_plain rfl ?_
                go_big_quiet_step (fail)
                refine wpQuiet_nil ?_
                refine flowW_plain rfl ?_
                go_big_quiet_step (fail)
                refine wpQuiet_nil ?_
                refine flowW_plain rfl ?_
                go_big_quiet_step (fail)
                refine wpQuiet_nil ?_
                refine flowW_plain rfl ?_
                go_big_quiet_step (fail)
                refine wpQuiet_nil ?_
                refine flowW_call rfl rfl ?_ ?_
                · intro W hW hF K hK
                  clear ky4 kg4 kc0 kc1 kc2 kc3 kc4 kc5 kc6 kc7 kc8 kc9 kc10
                  go_wp2_with fail
                  refine (refIn_b false HH.out (HOTH.out.later hW) (by have := HLA.out; have := HLB.out; omega)).mono ?_
                  rintro e wq ⟨rfl, hbq⟩
                  go_wp2_with fail
                  exact hK _ _ rfl trivial hbq
                rintro v rfl K hK
                go_simp
                refine hK _ ?_
                clear hK K
                refine flowW_plain rfl ?_
                go_big_quiet_step (fail)
                refine wpQuiet_nil ?_
                refine flowW_plain rfl ?_
                go_big_quiet_step (fail)
                refine wpQuiet_nil ?_
                refine flowW_plain rfl ?_
                go_big_quiet_step (fail)
                refine wpQuiet_nil ?_
                refine flowW_plain rfl ?_
                go_big_quiet_step (fail)
                refine wpQuiet_nil ?_
                refine flowW_plain rfl ?_
                go_big_quiet_step (fail)
                refine wpQuiet_nil ?_
                refine flowW_plain rfl ?_
                go_big_quiet_step (fail)
                refine wpQuiet_nil ?_
                refine flowW_plain rfl ?_
                go_big_quiet_step (fail)
                refine wpQuiet_nil ?_
                refine flowW_plain rfl ?_
                go_big_quiet_step (fail)
                refine wpQuiet_nil ?_
                refine flowW_plain rfl ?_
                go_big_quiet_step (fail)
                refine wpQuiet_nil ?_
                refine flowW_call rfl rfl ?_ ?_
                · intro W hW hF K hK
                  clear ky4 kg4 kc0 kc1 kc2 kc3 kc4 kc5 kc6 kc7 kc8 kc9 kc10
                  go_wp2_with fail
                  refine (refHasV_c true HHV.out (HV2.out.later hW)).mono ?_
                  rintro e wq ⟨rfl, hbq⟩
                  go_wp2_with fail
                  exact hK _ _ rfl trivial hbq
                rintro v rfl K hK
                go_simp
                refine hK _ ?_
                clear hK K
                refine flowW_plain rfl ?_
                go_big_quiet_step (fail)
                refine wpQuiet_nil ?_
                refine flowW_plain rfl ?_
                go_big_quiet_step (fail)
                refine wpQuiet_nil ?_
                refine flowW_end fun w2 hw2 hF hD => ?_
                clear ky4 kg4 kc0 kc1 kc2 kc3 kc4 kc5 kc6 kc7 kc8 kc9 kc10
                simp only [List.drop_succ_cons, List.drop_zero]
                have HB2 := Lib.hid hw2
                replace y4 := cell_later hw2 y4
                replace g4 := cell_later hw2 g4
                replace c0 := cell_later hw2 c0
                replace c1 := cell_later hw2 c1
                replace c2 := cell_later hw2 c2
                replace c3 := cell_later hw2 c3
                replace c4 := cell_later hw2 c4
                replace c5 := cell_later hw2 c5
                replace c6 := cell_later hw2 c6
                replace c7 := cell_later hw2 c7
                replace c8 := cell_later hw2 c8
                replace c9 := cell_later hw2 c9
                replace c10 := cell_later hw2 c10
                clear hw2 hF hD
                have HNO := Lib.hid (HNO0.out (by rw [HKD.out, HH.out, HHV.out]; rfl))
                go_wp2_with fail
                go_roundw
                case rel => exact ⟨k + 1, by omega, by go_num, by rw [HNO.out]; exact HR.out.later HB2.out⟩
                case measure => simp [intOf]; omega
          · go_wp2_with fail
            refine wp_region_flow (by kernel_rfl) 20 [(7, ⟨fun v => v = .bool true, fun _ _ _ _ => True⟩), (17, ⟨fun v => v = .bool true, fun _ _ _ _ => True⟩)] (by kernel_rfl) ?_ ?_ ?_
            · intro x hx
              simp only [List.mem_cons, List.not_mem_nil, or_false] at hx
              rcases hx with rfl | rfl
              · exact ⟨_, rfl⟩
              · exact ⟨_, rfl⟩
            · intro x hx v lo hi w w' h hb
              simp only [List.mem_cons, List.not_mem_nil, or_false] at hx
              rcases hx with rfl | rfl
              · exact trivial
              · exact trivial
            · intro lo hi
              have ky4 := cell_regrown y4
              have kg4 := cell_regrown g4
              have kc0 := cell_regrown c0
              have kc1 := cell_regrown c1
              have kc2 := cell_regrown c2
              have kc3 := cell_regrown c3
              have kc4 := cell_regrown c4
              have kc5 := cell_regrown c5
              have kc6 := cell_regrown c6
              have kc7 := cell_regrown c7
              have kc8 := cell_regrown c8
              have kc9 := cell_regrown c9
              have kc10 := cell_regrown c10
              refine flowW_plain rfl ?_
              go_big_quiet_step (fail)
              refine wpQuiet_nil ?_
              refine flowW_plain rfl ?_
              go_big_quiet_step (fail)
              refine wpQuiet_nil ?_
              refine flowW_plain rfl ?_
              go_big_quiet_step (fail)
              refine wpQuiet_nil ?_
              refine flowW_plain rfl ?_
              go_big_quiet_step (fail)
              refine wpQuiet_nil ?_
              refine flowW_plain rfl ?_
              go_big_quiet_step (fail)
              refine wpQuiet_nil ?_
              refine flowW_plain rfl ?_
              go_big_quiet_step (fail)
              refine wpQuiet_nil ?_
              refine flowW_plain rfl ?_
              go_big_quiet_step (fail)
              refine wpQuiet_nil ?_
              refine flowW_call rfl rfl ?_ ?_
              · intro W hW hF K hK
                clear ky4 kg4 kc0 kc1 kc2 kc3 kc4 kc5 kc6 kc7 kc8 kc9 kc10
                go_wp2_with fail
                refine (refIn_b true HH.out (HOTH.out.later hW) (by have := HLA.out; have := HLB.out; omega)).mono ?_
                rintro e wq ⟨rfl, hbq⟩
                go_wp2_with fail
                exact hK _ _ rfl trivial hbq
              rintro v rfl K hK
              go_simp
              refine hK _ ?_
              clear hK K
              refine flowW_plain rfl ?_
              go_big_quiet_step (fail)
              refine wpQuiet_nil ?_
              refine flowW_plain rfl ?_
              go_big_quiet_step (fail)
              refine wpQuiet_nil ?_
              refine flowW_skip rfl ?_
              go_big_quiet_step (fail)
              refine wpQuiet_nil ?_
              refine flowW_skip rfl ?_
              go_big_quiet_step (fail)
              refine wpQuiet_nil ?_
              refine flowW_skip rfl ?_
              go_big_quiet_step (fail)
              refine wpQuiet_nil ?_
              refine flowW_skip rfl ?_
              go_big_quiet_step (fail)
              refine wpQuiet_nil ?_
              refine flowW_skip rfl ?_
              go_big_quiet_step (fail)
              refine wpQuiet_nil ?_
              refine flowW_skip rfl ?_
              go_big_quiet_step (fail)
              refine wpQuiet_nil ?_
              refine flowW_skip rfl ?_
              go_big_quiet_step (fail)
              refine wpQuiet_nil ?_
              refine flowW_skip rfl ?_
              go_big_quiet_step (fail)
              refine wpQuiet_nil ?_
              refine flowW_skip rfl ?_
              go_big_quiet_step (fail)
              refine wpQuiet_nil ?_
              refine flowW_plain rfl ?_
              go_big_quiet_step (fail)
              refine wpQuiet_nil ?_
              refine flowW_end fun w2 hw2 hF hD => ?_
              clear ky4 kg4 kc0 kc1 kc2 kc3 kc4 kc5 kc6 kc7 kc8 kc9 kc10
              simp only [List.drop_succ_cons, List.drop_zero]
              have HB2 := Lib.hid hw2
              replace y4 := cell_later hw2 y4
              replace g4 := cell_later hw2 g4
              replace c0 := cell_later hw2 c0
              replace c1 := cell_later hw2 c1
              replace c2 := cell_later hw2 c2
              replace c3 := cell_later hw2 c3
              replace c4 := cell_later hw2 c4
              replace c5 := cell_later hw2 c5
              replace c6 := cell_later hw2 c6
              replace c7 := cell_later hw2 c7
              replace c8 := cell_later hw2 c8
              replace c9 := cell_later hw2 c9
              replace c10 := cell_later hw2 c10
              clear hw2 hF hD
              have HNO := Lib.hid (HNO0.out (by rw [HKD.out, HH.out]; rfl))
              go_wp2_with fail
              go_roundw
              case rel => exact ⟨k + 1, by omega, by go_num, by rw [HNO.out]; exact HR.out.later HB2.out⟩
              case measure => simp [intOf]; omega
        · have hkn : k = m := by omega
          subst hkn
          have hr := hR.out
          rw [List.take_of_length_le (l := b) (by have := HLB.out; omega)] at hr
          obtain ⟨⟨oa, oc, hbq, hown⟩, _⟩ := hr
          have hj : joinQ a b ka kb = isortL ltQ (a.filter (keepQ b kb) ++ b.filter (keepQ2 a ka)) := rfl
          rw [← hj] at hbq hown
          have hr3 := hold (by omega) B2.out
          have q0 := cell_of_box hbq 0 rfl
          have r0 := cell_of_box hr3 0 rfl
          have fr0 := frozen_of_box hr3 0
          have q1 := cell_of_box hbq 1 rfl
          have r1 := cell_of_box hr3 1 rfl
          have fr1 := frozen_of_box hr3 1
          have q2 := cell_of_box hbq 2 rfl
          have r2 := cell_of_box hr3 2 rfl
          have fr2 := frozen_of_box hr3 2
          have q3 := cell_of_box hbq 3 rfl
          have r3 := cell_of_box hr3 3 rfl
          have fr3 := frozen_of_box hr3 3
          have q4 := cell_of_box hbq 4 rfl
          have r4 := cell_of_box hr3 4 rfl
          have fr4 := frozen_of_box hr3 4
          have HO := Lib.hid hown
          have HBEL := Lib.hid hbel
          clear hr3 hbq hown hj hbut hbel hold hR
          go_wp2_with fail
          refine bodyPost_ret (v := .agg #[.int .i64 3, .int .i64 0, .int .i64 0, .string ⟨#[]⟩, .slice oa (joinQ a b ka kb).length oc]) (by simp [results, Try.results14, go_sem, r0, r1, r2, r3, r4]) rfl ⟨.slice oa (joinQ a b ka kb).length oc, rfl, ?_, ?_⟩
          · refine Rd.of_own (own_but (S := fun kk => kk = w.heap.size + 2) HO.out ?_ fun kk hk hs => by have := (HO.out.lt kk hk).1; have := HSZ.out; omega)
            iterate 5 (refine But.set (S := fun kk => kk = w.heap.size + 2) ?_ (by rfl) _)
            exact But.refl _ _
          · repeat' (first | with_reducible apply Below.setCell | exact HBEL.out)
            all_goals (simp <;> omega)

theorem refJoin_p {k1 ck cn k2 dk dn : Int} {cs ds : ByteArray} {va vb vk vl : Value} {a b m : List Prt} (ka kb : List Int) {w : World} (ha : PRd w va a) (hb : PRd w vb b) (hk : Rd w vk ka.length (ka.map ic)) (hl : Rd w vl kb.length (kb.map ic)) (hn : a.length ≤ 400) (hn' : b.length ≤ 400) (hm : joinQ a b ka kb = m) :
    Calls Try.prog 14 #[.agg #[.int .i64 k1, .int .i64 ck, .int .i64 cn, .string cs, va], .agg #[.int .i64 k2, .int .i64 dk, .int .i64 dn, .string ds, vb], vk, vl] w fun e w' => ∃ a c, e = .returned (.agg #[.int .i64 3, .int .i64 0, .int .i64 0, .string ⟨#[]⟩, .slice a m.length c]) ∧ PRd w' (.slice a m.length c) m ∧ Below w.heap.size w w' := by
  subst hm
  refine (brefJoin_any k1 k2 ⟨ck, cn, cs⟩ ⟨dk, dn, ds⟩ va vb vk vl a b ka kb w ha hb hk hl hn hn').mono ?_
  rintro e w' ⟨v, rfl, ho, hb⟩
  obtain ⟨a', c', rfl, _⟩ := id ho
  exact ⟨a', c', rfl, ho, hb⟩
end Go.Proofs.Ytnpciogpegmejaa
