/-
  Layer 9 (bag): Take. (printed by tools/gen_gk.py)
-/
import Derived.Test.YtnpciogpegmejaaGJ
namespace Go.Proofs.Ytnpciogpegmejaa
open Go.RowKit Go.Sort Go.Shelf Go.BigFrame
attribute [local go_sem] Oper.semAt_some

set_option maxRecDepth 100000 in
set_option maxHeartbeats 4000000 in
theorem take1_any (x : Prt) (n : Int) (d : Dt) (knew : List Int) (q r s : Nat) (w : World) (h : IntAt w q n) (hd : DotAt w r d) (hv : VecAt w s knew) :
    Calls Try.prog 47 #[x.agg, .pointer (some ⟨q, 0, none⟩), .pointer (some ⟨r, 0, none⟩), .pointer (some ⟨s, 0, none⟩)] w fun e w' => e = .returned (.bool (stayQ n d knew x)) ∧ Below w.heap.size w w' := by
  obtain ⟨⟨xk, xn, xs⟩, ⟨xd, xq⟩, xat, xtm, ⟨xfd, xfq⟩, xaa, xg⟩ := x
  obtain ⟨dd, dq⟩ := d
  obtain ⟨h0, h1⟩ := hd
  obtain ⟨ao, m, c, h2, h3⟩ := hv
  have hb := below_alloc w (.cells #[.int .i64 xk, .int .i64 xn, .string xs, .int .i64 xd, .int .i64 xq, .int .i64 xat, .int .i64 xtm, .int .i64 xfd, .int .i64 xfq, .int .i64 xaa, .bool xg] 43)
  have g := cell_later hb h
  have g0 := cell_later hb h0
  have g1 := cell_later hb h1
  have g2 := cell_later hb h2
  have HB := Lib.hid hb
  have HV := Lib.hid (h3.later hb)
  clear h h0 h1 h2 h3 hb
  by_cases e0 : xn = n
  · subst e0
    have eb : (xn == xn) = true := by simp
    by_cases e1 : xd = dd
    · subst e1
      by_cases e2 : xq = dq
      · subst e2
        have hk : stayQ xn ⟨xd, xq⟩ knew ⟨⟨xk, xn, xs⟩, ⟨xd, xq⟩, xat, xtm, ⟨xfd, xfq⟩, xaa, xg⟩ = false := by unfold stayQ; simp
        have HK := Lib.hid hk
        clear hk
        go_enter Try.func47, Try.ntmps47
        go_wp2_with fail
        go_ret
        exact ⟨ret_bool HK.out.symm, HB.out⟩
      · have e3 : (xq == dq) = false := by simpa using e2
        have hk : stayQ xn ⟨xd, dq⟩ knew ⟨⟨xk, xn, xs⟩, ⟨xd, xq⟩, xat, xtm, ⟨xfd, xfq⟩, xaa, xg⟩ = !hasV knew ⟨xd, xq⟩ := by unfold stayQ; rw [decide_eq_true rfl, decide_eq_false (by simpa using e2)]; rfl
        have HK := Lib.hid hk
        clear hk e2
        go_enter Try.func47, Try.ntmps47
        go_wp2_with fail
        refine (hasV_any _ knew ⟨xd, xq⟩ _ HV.out).mono ?_
        rintro e w1 ⟨rfl, hb1⟩
        have HB1 := Lib.hid (below_then HB.out hb1)
        clear hb1
        go_wp2_with fail
        go_ret
        exact ⟨ret_bool HK.out.symm, HB1.out⟩
    · have e3 : (xd == dd) = false := by simpa using e1
      have hk : stayQ xn ⟨dd, dq⟩ knew ⟨⟨xk, xn, xs⟩, ⟨xd, xq⟩, xat, xtm, ⟨xfd, xfq⟩, xaa, xg⟩ = !hasV knew ⟨xd, xq⟩ := by unfold stayQ; rw [decide_eq_true rfl, decide_eq_false (by intro h; cases h; exact e1 rfl)]; rfl
      have HK := Lib.hid hk
      clear hk e1
      go_enter Try.func47, Try.ntmps47
      go_wp2_with fail
      refine (hasV_any _ knew ⟨xd, xq⟩ _ HV.out).mono ?_
      rintro e w1 ⟨rfl, hb1⟩
      have HB1 := Lib.hid (below_then HB.out hb1)
      clear hb1
      go_wp2_with fail
      go_ret
      exact ⟨ret_bool HK.out.symm, HB1.out⟩
  · have e3 : (xn == n) = false := by simpa using e0
    have e4 : (xn != n) = true := by simpa using e0
    have hk : stayQ n ⟨dd, dq⟩ knew ⟨⟨xk, xn, xs⟩, ⟨xd, xq⟩, xat, xtm, ⟨xfd, xfq⟩, xaa, xg⟩ = true := by unfold stayQ; rw [decide_eq_false e0]; rfl
    have HK := Lib.hid hk
    clear hk e0
    go_enter Try.func47, Try.ntmps47
    go_wp2_with fail
    go_ret
    exact ⟨ret_bool HK.out.symm, HB.out⟩
theorem take_test (w : World) (n : Int) (d : Dt) (knew : List Int) (q r s : Nat) (h : IntAt w q n) (hd : DotAt w r d) (hv : VecAt w s knew) : TestP w 47 #[.pointer (some ⟨q, 0, none⟩), .pointer (some ⟨r, 0, none⟩), .pointer (some ⟨s, 0, none⟩)] (stayQ n d knew) :=
  ⟨enters_of Try.func47 (by kernel_rfl) rfl, fun x W hb => take1_any x n d knew q r s W (h.later hb) (hd.later hb) (hv.later hb)⟩

set_option maxRecDepth 100000 in
set_option maxHeartbeats 8000000 in
theorem take_any (kd ck cn : Int) (cs : ByteArray) (n : Int) (va vk : Value) (l : List Prt) (d : Dt) (knew : List Int) (w : World) (ha : PRd w va l) (hk : Rd w vk knew.length (knew.map ic)) (hl : l.length ≤ 1000) :
    Calls Try.prog 17 #[.agg #[.int .i64 kd, .int .i64 ck, .int .i64 cn, .string cs, va], .int .i64 n, d.agg, vk] w (CellPost kd ⟨ck, cn, cs⟩ w (takeQ l n d knew)) := by
  obtain ⟨i0, hi, hz0, hz1, hz2⟩ := elP.info
  obtain ⟨ao, cc, rfl, _⟩ := id ha
  obtain ⟨ko, kc, rfl, _⟩ := id hk
  obtain ⟨w1, hw1⟩ : ∃ w1, ((((w.alloc (.cells #[.int .i64 kd, .int .i64 ck, .int .i64 cn, .string cs, .slice ao l.length cc] 26)).alloc (.cells #[.int .i64 n] 3)).alloc (.cells #[.int .i64 d.dev, .int .i64 d.seq] 37)).alloc (.cells #[.slice ko knew.length kc] 28)).alloc (.cells #[.int .i64 0, .int .i64 0, .int .i64 0, .string ⟨#[]⟩, .slice none 0 0] 26) = w1 := ⟨_, rfl⟩
  have hb1 : Below w.heap.size w w1 := by rw [← hw1]; exact below_alloc_then (below_alloc_then (below_alloc_then (below_alloc_then (below_alloc _ _))))
  have hsz : w1.heap.size = w.heap.size + 5 := by rw [← hw1]; simp
  have b0 : Bx w1 w.heap.size #[.int .i64 kd, .int .i64 ck, .int .i64 cn, .string cs, .slice ao l.length cc] 26 := by rw [← hw1]; exact bx_later (below_alloc_then (below_alloc_then (below_alloc_then (below_alloc _ _)))) (bx_new (by simp))
  have b1 : Bx w1 (w.heap.size + 1) #[.int .i64 n] 3 := by rw [← hw1]; exact bx_later (below_alloc_then (below_alloc_then (below_alloc _ _))) (bx_new (by simp))
  have b2 : Bx w1 (w.heap.size + 2) #[.int .i64 d.dev, .int .i64 d.seq] 37 := by rw [← hw1]; exact bx_later (below_alloc_then (below_alloc _ _)) (bx_new (by simp))
  have b3 : Bx w1 (w.heap.size + 3) #[.slice ko knew.length kc] 28 := by rw [← hw1]; exact bx_later (below_alloc _ _) (bx_new (by simp))
  have b4 : Bx w1 (w.heap.size + 4) #[.int .i64 0, .int .i64 0, .int .i64 0, .string ⟨#[]⟩, .slice none 0 0] 26 := by rw [← hw1]; exact bx_new (by simp)
  have C := take_test w1 n d knew (w.heap.size + 1) (w.heap.size + 2) (w.heap.size + 3) (cell_of_box b1 0 rfl) ⟨cell_of_box b2 0 rfl, cell_of_box b2 1 rfl⟩ ⟨_, _, _, cell_of_box b3 0 rfl, hk.later hb1⟩
  have HA1 := ha.later hb1
  have x4 : ((w1.alloc (.cells #[.slice none 0 0] 24))).cell? ⟨w.heap.size, 4, none⟩ = some (.slice ao l.length cc) := cell_later (below_alloc w1 _) (cell_of_box b0 4 rfl)
  obtain ⟨w3, hw3⟩ : ∃ w3, ((w1.alloc (.cells #[.slice none 0 0] 24)).alloc (.cells #[.slice ao l.length cc] 24)).alloc (.cells #[.func (.func 47) #[] #[.pointer (some ⟨w.heap.size + 1, 0, none⟩), .pointer (some ⟨w.heap.size + 2, 0, none⟩), .pointer (some ⟨w.heap.size + 3, 0, none⟩)]] 69) = w3 := ⟨_, rfl⟩
  have hb3 : Below w1.heap.size w1 w3 := by rw [← hw3]; exact below_alloc_then (below_alloc_then (below_alloc _ _))
  have hsz3 : w3.heap.size = w1.heap.size + 3 := by rw [← hw3]; simp
  have hO : Boxed w3 w1.heap.size 24 (.slice none 0 0) := by rw [← hw3]; exact ((Boxed.new _ _ _).alloc _).alloc _
  have hQ1 : w3.cell? ⟨w1.heap.size + 1, 0, none⟩ = some (.slice ao l.length cc) := by
    rw [← hw3]
    have := (Boxed.new (w1.alloc (.cells #[.slice none 0 0] 24)) 24 (.slice ao l.length cc)).alloc (.cells #[.func (.func 47) #[] #[.pointer (some ⟨w.heap.size + 1, 0, none⟩), .pointer (some ⟨w.heap.size + 2, 0, none⟩), .pointer (some ⟨w.heap.size + 3, 0, none⟩)]] 69)
    rw [World.size_alloc] at this
    exact this.cell
  have hQ2 : Boxed w3 (w1.heap.size + 1 + 1) 69 (.func (.func 47) #[] #[.pointer (some ⟨w.heap.size + 1, 0, none⟩), .pointer (some ⟨w.heap.size + 2, 0, none⟩), .pointer (some ⟨w.heap.size + 3, 0, none⟩)]) := by
    rw [← hw3]
    have := Boxed.new ((w1.alloc (.cells #[.slice none 0 0] 24)).alloc (.cells #[.slice ao l.length cc] 24)) 69 (.func (.func 47) #[] #[.pointer (some ⟨w.heap.size + 1, 0, none⟩), .pointer (some ⟨w.heap.size + 2, 0, none⟩), .pointer (some ⟨w.heap.size + 3, 0, none⟩)])
    rw [World.size_alloc, World.size_alloc] at this
    exact this
  have HW1 := Lib.hid hw1
  have HW3 := Lib.hid hw3
  have HBW1 := Lib.hid hb1
  have HSZ := Lib.hid hsz
  have B0 := Lib.hid b0
  have B4 := Lib.hid b4
  clear hw1 hw3 hb1 hsz b0 b1 b2 b3 b4 ha hk
  refine (callsIn_wide (n := 6)).1 ?_
  refine callsIn_of_wp_marks Try.func17 rfl trivial ?_ rfl
  simp only [Try.ntmps17, List.size_toArray, List.length_cons, List.length_nil, Nat.reduceAdd, Nat.reduceSub, Array.replicate_succ, Array.replicate_zero, List.push_toArray, List.append_toArray, List.nil_append, List.cons_append]
  gi_wp2_with fail
  rw [HW1.out, show w.heap.size + 1 + 1 + 1 + 1 + 1 = w1.heap.size from by have := HSZ.out; omega]
  gi_wp2_with fail
  refine ⟨trivial, ?_⟩
  refine (callsIn_wide.2 (some_any ao l.length cc 47 #[.pointer (some ⟨w.heap.size + 1, 0, none⟩), .pointer (some ⟨w.heap.size + 2, 0, none⟩), .pointer (some ⟨w.heap.size + 3, 0, none⟩)] _)).mono ?_
  rintro e w' ⟨rfl, rfl⟩
  gi_wp2_with fail
  rw [HW3.out]
  clear x4
  refine wpIn_rangeFunc_ownH (F := Fence.wide) rfl (by decide) (gf := 56) (lb := #[.pointer (some ⟨w1.heap.size + 1, 0, none⟩), .pointer (some ⟨w1.heap.size + 1 + 1, 0, none⟩)]) rfl trivial (enters_of Try.func56 (by kernel_rfl) rfl)
    (some1_stops 5 (by decide) w1 C (.slice ao l.length cc) l (w1.heap.size + 1) (w1.heap.size + 1 + 1) w3 hb3 hQ1 hQ2 HA1 (by omega)) (fun h k => h.t k) (KpS.b (by omega) (by omega)) (Below.refl _ w3) (fun _ => rfl)
    (fun pre W => (∃ v, Boxed W w1.heap.size 24 v ∧ W.ownsRow w1.heap.size 43 11 v pre.length (prtCs pre) ∧ True) ∧ Below w1.heap.size w1 W ∧ Boxed W (w1.heap.size + 1 + 1) 69 (.func (.func 47) #[] #[.pointer (some ⟨w.heap.size + 1, 0, none⟩), .pointer (some ⟨w.heap.size + 2, 0, none⟩), .pointer (some ⟨w.heap.size + 3, 0, none⟩)]))
    (fun _ _ _ => False)
    (OwnFrom.and (Own.from (holdsRow_own w1.heap.size w1.heap.size 24 43 11 (fun pre => pre.length) (fun pre => prtCs pre) (fun _ _ => True)) _) (OwnFrom.and (ownFrom_below (Nat.le_refl _) (by omega)) (Own.from (boxed_own _ _ _) _)))
    (fun _ _ _ _ _ hs _ _ => hs)
    ⟨⟨_, hO, World.ownsRow_nil _ _ _ _, trivial⟩, hb3, hQ2⟩
    (fun x a' W => ∃ q, Bx W q #[.int .i64 x.v.k, .int .i64 x.v.n, .string x.v.s, .int .i64 x.d.dev, .int .i64 x.d.seq, .int .i64 x.at_, .int .i64 x.tm, .int .i64 x.aft.dev, .int .i64 x.aft.seq, .int .i64 x.aat, .bool x.gone] 43 ∧ a' = { tmps := #[.agg #[.int .i64 kd, .int .i64 ck, .int .i64 cn, .string cs, .slice ao l.length cc], .int .i64 n, d.agg, .slice ko knew.length kc, .pointer (some ⟨w.heap.size, 0, none⟩), .pointer (some ⟨w.heap.size + 1, 0, none⟩), .pointer (some ⟨w.heap.size + 1 + 1, 0, none⟩), .pointer (some ⟨w.heap.size + 1 + 1 + 1, 0, none⟩), .pointer (some ⟨w.heap.size + 1 + 1 + 1 + 1, 0, none⟩), .pointer (some ⟨w1.heap.size, 0, none⟩), .pointer (some ⟨q, 0, none⟩), .pointer (some ⟨w.heap.size, 4, none⟩), .slice ao l.length cc, .func (.func 47) #[] #[.pointer (some ⟨w.heap.size + 1, 0, none⟩), .pointer (some ⟨w.heap.size + 1 + 1, 0, none⟩), .pointer (some ⟨w.heap.size + 1 + 1 + 1, 0, none⟩)], .func (.func 56) #[] #[.pointer (some ⟨w1.heap.size + 1, 0, none⟩), .pointer (some ⟨w1.heap.size + 1 + 1, 0, none⟩)], x.agg, undef, undef, undef, undef, undef, undef, undef], defers := [] })
    (fun x a' _ X Y row hs hg hr => by obtain ⟨q, h1, h2⟩ := hs; exact ⟨q, bx_kept h1 hg (fun r e => (hr r e).2), h2⟩)
    ?assign ?body ?done ?stop
  case assign =>
    rintro l pre x W K ⟨⟨v, hv, hrow, -⟩, hB, hF⟩ hK
    gi_wp2_with fail
    have hszW := hB.size
    exact hK _ _ ((KeepsOthers.alloc _ _).from _) ⟨(Below.refl _ W).alloc hszW _, fun e => (Below.heap_alloc W _ _ (Array.getElem?_eq_some_iff.1 e).1).trans e⟩ ⟨⟨v, hv.alloc _, hrow.alloc _, trivial⟩, hB.alloc hszW _, hF.alloc _⟩ ⟨W.heap.size, bx_new rfl, rfl⟩
  case body =>
    rintro l' pre x a' W hl' ⟨r, hr⟩ ⟨⟨v, hv, hrow, -⟩, hB, hF⟩ ⟨q, hX, rfl⟩ hlt
    have hc := hv.cell
    have e0 := cell_of_box hX 0 rfl
    have e1 := cell_of_box hX 1 rfl
    have e2 := cell_of_box hX 2 rfl
    have e3 := cell_of_box hX 3 rfl
    have e4 := cell_of_box hX 4 rfl
    have e5 := cell_of_box hX 5 rfl
    have e6 := cell_of_box hX 6 rfl
    have e7 := cell_of_box hX 7 rfl
    have e8 := cell_of_box hX 8 rfl
    have e9 := cell_of_box hX 9 rfl
    have e10 := cell_of_box hX 10 rfl
    have hpl : pre.length + 1 ≤ 1000000 := by omega
    obtain ⟨kk, hkk⟩ : ∃ kk, pre.length = kk := ⟨_, rfl⟩
    obtain ⟨n0, hn0'⟩ : ∃ n0, n0 = w1.heap.size := ⟨_, rfl⟩
    have hn0 : n0 ≤ w1.heap.size := Nat.le_of_eq hn0'
    rw [hkk, ← hn0'] at hrow
    rw [hkk] at hpl
    have HKK := Lib.hid hkk
    have HN0 := Lib.hid hn0'
    clear hkk hn0'
    gi_wp2_with (gi_at_builtin; refine wpListIn_append_own _ rfl _ _ 24 rfl n0 43 i0 _ 11 96 elP.ty hi hz0 hz1 hz2 elP.zs (by decide) _ _ _ rfl (hrow.alloc _) ⟨W.heap.size, 0, none⟩ 1 1 (enP x) rfl rfl (cells_one W #[.int .i64 x.v.k, .int .i64 x.v.n, .string x.v.s, .int .i64 x.d.dev, .int .i64 x.d.seq, .int .i64 x.at_, .int .i64 x.tm, .int .i64 x.aft.dev, .int .i64 x.aft.seq, .int .i64 x.aat, .bool x.gone] 43) (fun u hu => oneP [x] u (by simpa [prtCs] using hu)) (by simp only [maxLen]; omega) (by omega) (by have := hB.size; simp; omega) ?_; intro v' w1' hown' hgrow _; obtain ⟨g', cap', rfl⟩ := ownsRow_succ hown'; obtain ⟨hv1, hv2, hr2, hk2, hb2⟩ := hv.appended (by decide) hrow (Nat.le_trans hn0 hB.size) hn0 hown' hgrow; have hF2 := Boxed.other (B' := w1.heap.size) ((hF.alloc _).kept hgrow (hF.not_row (by decide) hrow)) (by omega) (.slice (some ⟨g', 0, none⟩) (kk + 1) cap'); have hc1 := hv1.cell; have hf1 := hv1.frozen)
    have e0' := HN0.out
    subst e0'
    exact ⟨hk2.from _, ⟨hb2, fun _ => hF2⟩, ⟨_, hv2, by rw [prtCs_snoc, List.length_append, HKK.out]; exact hr2, trivial⟩, hB.trans hb2, hF2⟩
  case done =>
    rintro D ys W hD rfl ⟨⟨v, hv, hrow, -⟩, hB, hF⟩ hK
    have hc := hv.cell
    have hBW := Lib.hid hB
    have b0 := bx_later hB B0.out
    have b4 := bx_later hB B4.out
    have y0 := cell_of_box b0 0 rfl
    have u0 := frozen_of_box b0 0
    have z0 := cell_of_box b4 0 rfl
    have f0 := frozen_of_box b4 0
    have y1 := cell_of_box b0 1 rfl
    have u1 := frozen_of_box b0 1
    have z1 := cell_of_box b4 1 rfl
    have f1 := frozen_of_box b4 1
    have y2 := cell_of_box b0 2 rfl
    have u2 := frozen_of_box b0 2
    have z2 := cell_of_box b4 2 rfl
    have f2 := frozen_of_box b4 2
    have y3 := cell_of_box b0 3 rfl
    have u3 := frozen_of_box b0 3
    have z3 := cell_of_box b4 3 rfl
    have f3 := frozen_of_box b4 3
    have y4 := cell_of_box b0 4 rfl
    have u4 := frozen_of_box b0 4
    have z4 := cell_of_box b4 4 rfl
    have f4 := frozen_of_box b4 4
    obtain ⟨va', ca', rfl, _⟩ := Rd.of_own hrow
    have HROW := Lib.hid hrow
    have HK := Lib.hid hK
    have HD := Lib.hid hD
    clear hB b0 b4 hrow hK hv hD
    gi_wp2_with fail
    have hsz4 := HSZ.out
    have hD4 : w1.heap.size + 3 ≤ D := by have := HD.out; omega
    have hb0 := bx_later hBW.out B0.out
    have hb4 := bx_later hBW.out B4.out
    have hKV : ((((((W.setCell ⟨w.heap.size, 4, none⟩ (.slice va' (List.filter (stayQ n d knew) l).length ca')).setCell ⟨w.heap.size + 1 + 1 + 1 + 1, 0, none⟩ (.int .i64 kd)).setCell ⟨w.heap.size + 1 + 1 + 1 + 1, 1, none⟩ (.int .i64 ck)).setCell ⟨w.heap.size + 1 + 1 + 1 + 1, 2, none⟩ (.int .i64 cn)).setCell ⟨w.heap.size + 1 + 1 + 1 + 1, 3, none⟩ (.string cs)).setCell ⟨w.heap.size + 1 + 1 + 1 + 1, 4, none⟩ (.slice va' (List.filter (stayQ n d knew) l).length ca')).heap[D]? = some (.deferred (some [])) :=
      ((((((KeepsOthers.setCell _ _ _).trans (KeepsOthers.setCell _ _ _)).trans (KeepsOthers.setCell _ _ _)).trans (KeepsOthers.setCell _ _ _)).trans (KeepsOthers.setCell _ _ _)).trans (KeepsOthers.setCell _ _ _)).same D _ HK.out rfl
    have hV : Bx ((((((W.setCell ⟨w.heap.size, 4, none⟩ (.slice va' (List.filter (stayQ n d knew) l).length ca')).setCell ⟨w.heap.size + 1 + 1 + 1 + 1, 0, none⟩ (.int .i64 kd)).setCell ⟨w.heap.size + 1 + 1 + 1 + 1, 1, none⟩ (.int .i64 ck)).setCell ⟨w.heap.size + 1 + 1 + 1 + 1, 2, none⟩ (.int .i64 cn)).setCell ⟨w.heap.size + 1 + 1 + 1 + 1, 3, none⟩ (.string cs)).setCell ⟨w.heap.size + 1 + 1 + 1 + 1, 4, none⟩ (.slice va' (List.filter (stayQ n d knew) l).length ca')) (w.heap.size + 1 + 1 + 1 + 1) #[.int .i64 kd, .int .i64 ck, .int .i64 cn, .string cs, (.slice va' (List.filter (stayQ n d knew) l).length ca')] 26 := bx_set5 (bx_set_other hb4 (by omega) 4 _)
    have hO5 : ((((((W.setCell ⟨w.heap.size, 4, none⟩ (.slice va' (List.filter (stayQ n d knew) l).length ca')).setCell ⟨w.heap.size + 1 + 1 + 1 + 1, 0, none⟩ (.int .i64 kd)).setCell ⟨w.heap.size + 1 + 1 + 1 + 1, 1, none⟩ (.int .i64 ck)).setCell ⟨w.heap.size + 1 + 1 + 1 + 1, 2, none⟩ (.int .i64 cn)).setCell ⟨w.heap.size + 1 + 1 + 1 + 1, 3, none⟩ (.string cs)).setCell ⟨w.heap.size + 1 + 1 + 1 + 1, 4, none⟩ (.slice va' (List.filter (stayQ n d knew) l).length ca')).ownsRow w1.heap.size 43 11 (.slice va' (List.filter (stayQ n d knew) l).length ca') (List.filter (stayQ n d knew) l).length (prtCs (List.filter (stayQ n d knew) l)) :=
      own_setq (own_setq (own_setq (own_setq (own_setq (own_setq HROW.out (by omega) 4 _) (by omega) 0 _) (by omega) 1 _) (by omega) 2 _) (by omega) 3 _) (by omega) 4 _
    have hB5 : Below w.heap.size w ((((((W.setCell ⟨w.heap.size, 4, none⟩ (.slice va' (List.filter (stayQ n d knew) l).length ca')).setCell ⟨w.heap.size + 1 + 1 + 1 + 1, 0, none⟩ (.int .i64 kd)).setCell ⟨w.heap.size + 1 + 1 + 1 + 1, 1, none⟩ (.int .i64 ck)).setCell ⟨w.heap.size + 1 + 1 + 1 + 1, 2, none⟩ (.int .i64 cn)).setCell ⟨w.heap.size + 1 + 1 + 1 + 1, 3, none⟩ (.string cs)).setCell ⟨w.heap.size + 1 + 1 + 1 + 1, 4, none⟩ (.slice va' (List.filter (stayQ n d knew) l).length ca')) := below_set5 ((below_then HBW1.out hBW.out).setCell (by exact Nat.le_refl _) _) (by omega) _ _ _ _ _
    refine ⟨by simp, .inl ⟨_, _, rfl, run_takeDeferred hKV, ?_⟩⟩
    obtain ⟨W1, hW1⟩ : ∃ W1, ((((((W.setCell ⟨w.heap.size, 4, none⟩ (.slice va' (List.filter (stayQ n d knew) l).length ca')).setCell ⟨w.heap.size + 1 + 1 + 1 + 1, 0, none⟩ (.int .i64 kd)).setCell ⟨w.heap.size + 1 + 1 + 1 + 1, 1, none⟩ (.int .i64 ck)).setCell ⟨w.heap.size + 1 + 1 + 1 + 1, 2, none⟩ (.int .i64 cn)).setCell ⟨w.heap.size + 1 + 1 + 1 + 1, 3, none⟩ (.string cs)).setCell ⟨w.heap.size + 1 + 1 + 1 + 1, 4, none⟩ (.slice va' (List.filter (stayQ n d knew) l).length ca')) = W1 := ⟨_, rfl⟩
    rw [hW1] at hKV hV hO5 hB5 ⊢
    clear hW1 hc hb0 hb4 y0 u0 z0 f0 y1 u1 z1 f1 y2 u2 z2 f2 y3 u3 z3 f3 y4 u4 z4 f4
    have hV2 : Bx (W1.putObj D (.deferred none)) (w.heap.size + 1 + 1 + 1 + 1) #[.int .i64 kd, .int .i64 ck, .int .i64 cn, .string cs, (.slice va' (List.filter (stayQ n d knew) l).length ca')] 26 := (World.putObj_heap_other (by omega)).trans hV
    have hO6 := ownsRow_putObj hO5 (.deferred none) hKV rfl
    have hB6 : Below w.heap.size w (W1.putObj D (.deferred none)) := hB5.trans (belowK_b (w := w1) HBW1.out.size W1 D _ _ (by omega) hKV rfl rfl)
    obtain ⟨W2, hW2⟩ : ∃ W2, W1.putObj D (.deferred none) = W2 := ⟨_, rfl⟩
    rw [hW2] at hV2 hO6 hB6 ⊢
    have z0 := cell_of_box hV2 0 rfl
    have z1 := cell_of_box hV2 1 rfl
    have z2 := cell_of_box hV2 2 rfl
    have z3 := cell_of_box hV2 3 rfl
    have z4 := cell_of_box hV2 4 rfl
    have HO6 := Lib.hid hO6
    have HB6 := Lib.hid hB6
    clear hKV hV hO5 hB5 hW2 hV2 hO6 hB6
    exact ⟨.agg #[.int .i64 kd, .int .i64 ck, .int .i64 cn, .string cs, (.slice va' (List.filter (stayQ n d knew) l).length ca')], by simp [results, Try.results17, go_sem, z0, z1, z2, z3, z4], (.slice va' (List.filter (stayQ n d knew) l).length ca'), rfl, own_monoP HO6.out (by omega), HB6.out⟩
  case stop =>
    rintro D c pre W _ _ h _
    exact h.elim
end Go.Proofs.Ytnpciogpegmejaa
