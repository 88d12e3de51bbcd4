/-
  The law ClockTurned.
-/
import Derived.Test.YtboblpmpklofgaaTP
namespace Go.Proofs.Ytboblpmpklofgaa.clockTurned
open Go.ChangeShapes Go.WideShapes Go.ChangeAt Go.RowKit Go.Sort Go.BigFrame Go.Proofs.Ytboblpmpklofgaa
open Go.ChangeMaps (open_string shut_string)

theorem run_make_bools (n : Nat) (hn : n ≤ 1000000) : ∃ cs : Array Value, cs.toList = (List.replicate n false).map Value.bool ∧ ∀ W, (Instr.makeSlice 40 (.int .i64 (n : Int)) (.int .i64 (n : Int))).run Try.prog W = .ok (.slice (some ⟨W.heap.size, 0, none⟩) n n) (W.alloc (.cells cs 4)) := by
  obtain ⟨i, hi, h0, h1, h2⟩ := info_parts (show (Try.prog.info? 4).map (fun i => (i.zero, i.size, i.bytes)) = some (some (.bool false), 1, 1) by kernel_rfl)
  refine ⟨madeCells (Value.bool false).cells (n * i.size), ?_, fun W => ?_⟩
  · rw [h1, Nat.mul_one]
    have : (Value.bool false).cells = #[Value.bool false] := rfl
    rw [this, toList_madeCells_one, List.map_replicate]
  · have := run_make (P := Try.prog) W 40 4 i _ (by kernel_rfl) hi h0 .i64 .i64 n n (by omega) (Int.le_refl _) (by rw [h2]; omega) (by omega)
    simpa using this

theorem stCs_snoc (l : List Stp) (a : Stp) : stCs (l ++ [a]) = stCs l ++ a.cs := by simp [stCs]

abbrev enB (x : Bool) : List Value := [.bool x]

set_option maxRecDepth 100000 in
set_option maxHeartbeats 4000000 in
theorem walk (va : Value) (l : List Stp) (w : World) (h : Rd w va l.length (stCs l)) :
    Calls Try.prog 8 #[va] w fun e w' => e = .returned (.bool true) ∧ Below w.heap.size w w' := by
  obtain ⟨ao, c, rfl, hnc, hcm, _, _⟩ := id h
  unfold maxLen at hcm
  obtain ⟨n, hln⟩ : ∃ n, l.length = n := ⟨_, rfl⟩
  have HA := Lib.hid h
  have HLN := Lib.hid hln
  have HB := Lib.hid (Below.refl w.heap.size w)
  rw [hln] at hnc ⊢
  clear h hln
  by_cases hbig : 60 < n
  · go_enter Try.func8, Try.ntmps8
    go_wp2_with fail
    refine (awake_any _).mono ?_
    rintro e w1 ⟨rfl, hb⟩
    replace HB := Lib.hid (below_then HB.out hb)
    clear hb
    go_wp2_with fail
    go_ret
    exact ⟨rfl, HB.out⟩
  · have hn60 : n ≤ 60 := by omega
    go_enter Try.func8, Try.ntmps8
    go_wp2_with fail
    refine (awake_any _).mono ?_
    rintro e w1 ⟨rfl, hb⟩
    replace HB := Lib.hid (below_then HB.out hb)
    clear hb
    go_wp2_with fail
    go_loopw [4, 5] (fun vb vi wr => ∃ k : Nat, k ≤ n ∧ vi = .int .i64 ((n : Int) - 1 - k) ∧ Hid (wr.ownsRow w1.heap.size 23 3 vb k (stCs (l.reverse.take k))) ∧ Hid (Below w1.heap.size w1 wr)) (fun _ vi _ => (intOf vi + 1).toNat)
    case atStart => exact ⟨0, Nat.zero_le _, by go_num, World.ownsRow_nil w1 _ _ _, Below.refl _ _⟩
    case round =>
      obtain ⟨k, hk, rfl, hown, hbw⟩ := hrel
      rename World => wr
      by_cases hlt : k < n
      · have hkl : n - 1 - k < l.length := by have := HLN.out; omega
        obtain ⟨b1, o1, x1, c0, c1, c2, _⟩ := rd_st (HA.out.later (below_then HB.out hbw.out)) rfl (n - 1 - k) hkl
        rw [HLN.out] at x1
        have hkr : k < l.reverse.length := by rw [List.length_reverse]; have := HLN.out; omega
        have hel : l.reverse[k] = l[n - 1 - k] := by
          rw [List.getElem_reverse]
          congr 1
          have := HLN.out; omega
        obtain ⟨x, hx⟩ : ∃ x, l[n - 1 - k] = x := ⟨_, rfl⟩
        rw [hx] at c0 c1 c2 hel
        have hsn : stCs (l.reverse.take (k + 1)) = stCs (l.reverse.take k) ++ x.cs := by rw [List.take_succ_eq_append_getElem hkr, hel, stCs_snoc]
        rw [show ((n - 1 - k : Nat) : Int) = (n : Int) - 1 - k from by omega] at x1
        have q1 : (0 : Int) ≤ (n : Int) - 1 - k := by omega
        have HS := Lib.hid hsn
        have hown1 := hown.out
        have hbs := hbw.out.size
        clear hsn hel hx hkr hkl
        go_wp2_with (at_builtin; refine wpList_push elSt rfl _ _ rfl rfl rfl hown1 rfl rfl (by unfold maxLen; omega) (by omega) hbs ?_; intro v4 w4 hown4 hgrow4 hblk4)
        have hb4 := below_own hbw.out hown1 (Nat.le_refl _) hgrow4
        have hown5 : w4.ownsRow w1.heap.size 23 3 v4 (k + 1) (stCs (l.reverse.take (k + 1))) := by rw [HS.out]; exact hown4
        have HO5 := Lib.hid hown5
        have HB4 := Lib.hid hb4
        clear hown1 hown4 hgrow4 hblk4 hown5 hb4 c0 c1 c2
        go_wp2_with fail
        go_roundw
        case rel => exact ⟨k + 1, by omega, by go_num, HO5.out, HB4.out⟩
        case measure => simp [intOf]; omega
      · have hkn : k = n := by omega
        subst hkn
        have hrev : l.reverse.take k = l.reverse := List.take_of_length_le (by rw [List.length_reverse]; have := HLN.out; omega)
        rw [hrev] at hown
        have hrdb := Rd.of_own hown.out
        replace HB := Lib.hid (below_then HB.out hbw.out)
        have HRB := Lib.hid hrdb
        clear hrev hown hrdb hbw
        obtain ⟨ab, cb, rfl, hnb, hmb, _, _⟩ := id HRB.out
        have hll := HLN.out
        have hlr : l.reverse.length = k := by rw [List.length_reverse]; exact hll
        have HLR := Lib.hid hlr
        clear hnb hmb hll hlr
        go_wp2_with fail
        refine (order_any _ l _ (by rw [HLN.out]; have := HA.out.later HB.out; rwa [HLN.out] at this) (by rw [HLN.out]; omega)).mono ?_
        rintro e w2 ⟨v2, rfl, hr2, hb⟩
        replace HB := Lib.hid (below_then HB.out hb)
        have HRB2 := Lib.hid (HRB.out.later hb)
        rw [HLN.out] at hr2
        have HO := Lib.hid hr2
        obtain ⟨aa, ca, rfl, hna, hma, _, _⟩ := id hr2
        clear hb hr2 hna hma
        go_wp2_with fail
        refine (order_any _ l.reverse _ (by rw [HLR.out]; exact HRB2.out) (by rw [HLR.out]; omega)).mono ?_
        rintro e w3 ⟨v3, rfl, hr3, hb⟩
        replace HB := Lib.hid (below_then HB.out hb)
        have HO1 := Lib.hid (HO.out.later hb)
        have HRB3 := Lib.hid (HRB2.out.later hb)
        rw [HLR.out] at hr3
        have HP := Lib.hid hr3
        obtain ⟨ap, cp, rfl, hnp, hmp, _, _⟩ := id hr3
        clear hb hr3 hnp hmp HO HRB HRB2
        obtain ⟨cs, hcs, hmk⟩ := run_make_bools k (by omega)
        have HCS := Lib.hid hcs
        clear hcs
        go_wp2_with fail
        have hR : Rw enB 1 (w3.alloc (.cells cs 4)) w3.heap.size 0 k (List.replicate k false) := by
          have hh := holds_new w3 (fun x : Bool => .bool x) cs 4 (List.replicate k false) HCS.out
          exact ⟨fun _ => rfl, fun x v hv => by rw [List.mem_singleton.1 hv]; rfl, hh, by simp, by simp⟩
        have HR := Lib.hid hR
        have H0 := Lib.hid hR.start
        have HW0 := Lib.hid (below_alloc w3 (.cells cs 4))
        clear hR
        generalize w3.alloc (.cells cs 4) = w0 at *
        go_loopw [9] (fun vi wr => ∃ i : Nat, i ≤ k ∧ vi = .int .i64 i ∧ Hid (SB enB 1 w0 w3.heap.size 0 (metL (orderL l) i k) wr)) (fun vi _ => k - (intOf vi).toNat)
        case atStart =>
          refine ⟨0, Nat.zero_le _, rfl, ?_⟩
          have e : metL (orderL l) 0 k = List.replicate k false := by
            unfold metL
            simp [List.map_const']
          show SB _ _ _ _ _ _ _
          rw [e]; exact H0.out
        case round =>
          obtain ⟨i, hi, rfl, hsb⟩ := hrel
          rename World => wr2
          have hbr : Below w3.heap.size w3 wr2 := hsb.out.old HW0.out (Nat.le_refl _)
          by_cases hlt : i < k
          · have hoi : i < (orderL l).length := by rw [orderL_length, HLN.out]; exact hlt
            have hpi : i < (orderL l.reverse).length := by rw [orderL_length, HLR.out]; exact hlt
            have hm1 := orderL_mem l (List.getElem_mem hoi)
            have hm2 := orderL_mem l.reverse (List.getElem_mem hpi)
            rw [HLN.out] at hm1
            rw [HLR.out] at hm2
            obtain ⟨y, hy⟩ : ∃ y : Nat, (orderL l)[i] = (y : Int) := ⟨(orderL l)[i].toNat, by omega⟩
            obtain ⟨z, hz⟩ : ∃ z : Nat, (orderL l.reverse)[i] = (z : Int) := ⟨(orderL l.reverse)[i].toNat, by omega⟩
            have hyk : y < k := by omega
            have hzk : z < k := by omega
            obtain ⟨A, x1, c1, _⟩ := rd_one elInts ic (HO1.out.later hbr) (by rw [orderL_length, HLN.out]) i hoi
            obtain ⟨B, x2, c2, _⟩ := rd_one elInts ic (HP.out.later hbr) (by rw [orderL_length, HLR.out]) i hpi
            rw [hy] at c1
            rw [hz] at c2
            have hyl : y < l.length := by rw [HLN.out]; exact hyk
            have hzl : z < l.reverse.length := by rw [HLR.out]; exact hzk
            obtain ⟨b3, o3, x3, d0, d1, d2, _⟩ := rd_st (HA.out.later (below_then HB.out hbr)) rfl y hyl
            rw [HLN.out] at x3
            obtain ⟨b4, o4, x4, e0, e1, e2, _⟩ := rd_st (HRB3.out.later hbr) HLR.out.symm z hzl
            have hst : l[y] = l.reverse[z] := by
              have := turned_at l hoi hpi
              rw [hy, hz, stAt_get l y hyl, stAt_get l.reverse z hzl] at this
              exact this
            rw [← hst] at e0 e1 e2
            obtain ⟨m1, m2⟩ := metL_next (orderL l) (n := k) hoi hy hyk (orderL_nodup l)
            have hml : ((metL (orderL l) i k).take y ++ false :: (metL (orderL l) i k).drop (y + 1)).length = k := by rw [← m1, metL_length]
            have hty : ((metL (orderL l) i k).take y).length = y := by rw [List.length_take, metL_length]; omega
            have hsb1 := hsb.out
            rw [m1] at hsb1
            obtain ⟨g0, _⟩ := hsb1.cell1 HR.out hml hty.symm rfl
            rw [Nat.zero_add] at g0
            have HM1 := Lib.hid m1
            have HM2 := Lib.hid m2
            have HML := Lib.hid hml
            have HTY := Lib.hid hty
            have HST := Lib.hid hst
            have HY := Lib.hid hy
            have HSB1 := Lib.hid hsb1
            have HBR := Lib.hid hbr
            have p1 : (y : Int) < (k : Int) := by omega
            have p2 : (z : Int) < (k : Int) := by omega
            have p3 : (i : Int) < (k : Int) := by omega
            clear m1 m2 hml hty hst hy hz hsb1 hm1 hm2 hbr hsb
            go_wp2_with fail
            have kc1 := cell_regrown c1
            have kc2 := cell_regrown c2
            have kd0 := cell_regrown d0
            have kd1 := cell_regrown d1
            have kd2 := cell_regrown d2
            have ke0 := cell_regrown e0
            have ke1 := cell_regrown e1
            have ke2 := cell_regrown e2
            have kg0 := cell_regrown g0
            refine wp_region_quiet_below (by kernel_rfl) (by kernel_rfl) ?_
            repeat (go_big_quiet_step (first | fail))
            refine wpQuiet_nil ?_
            intro _ hw'
            obtain ⟨⟨dq, osq⟩, hw''⟩ := hw'
            subst hw''
            clear kc1 kc2 kd0 kd1 kd2 ke0 ke1 ke2 kg0
            have hb4 := below_regrown wr2 dq osq
            generalize grow (redrawn wr2 dq) osq = w4 at *
            replace c1 := cell_later hb4 c1
            replace c2 := cell_later hb4 c2
            replace d0 := cell_later hb4 d0
            replace d1 := cell_later hb4 d1
            replace d2 := cell_later hb4 d2
            replace e0 := cell_later hb4 e0
            replace e1 := cell_later hb4 e1
            replace e2 := cell_later hb4 e2
            replace g0 := cell_later hb4 g0
            obtain ⟨g0', g1⟩ := (HSB1.out.later hb4).cell1 HR.out HML.out HTY.out.symm rfl
            have hst2 := (HSB1.out.later hb4).stored1 HR.out (y := true) HTY.out.symm rfl
            rw [← HM2.out] at hst2
            rw [Nat.zero_add] at g0' g1 hst2
            have HS2 := Lib.hid hst2
            clear hst2 g0' hb4 c2 d0 d1 d2 e0 e1 e2
            by_cases hi0 : 0 < i
            · have hoj : i - 1 < (orderL l).length := by omega
              have hm3 := orderL_mem l (List.getElem_mem hoj)
              rw [HLN.out] at hm3
              obtain ⟨u, hu⟩ : ∃ u : Nat, (orderL l)[i - 1] = (u : Int) := ⟨(orderL l)[i - 1].toNat, by omega⟩
              have huk : u < k := by omega
              have hul : u < l.length := by rw [HLN.out]; exact huk
              have hnx := orderL_next l (i := i - 1) (by omega)
              have hii : (orderL l)[i - 1 + 1]'(by omega) = (orderL l)[i] := by congr 1; omega
              rw [hii, HY.out, hu, stAt_get l y hyl, stAt_get l u hul] at hnx
              obtain ⟨n1, n2⟩ := hnx
              have HU := Lib.hid hu
              have HN1 := Lib.hid n1
              have HN2 := Lib.hid n2
              have p4 : (u : Int) < (k : Int) := by omega
              clear hu hii n1 n2 hm3
              have hcases : (l[y].t == l[u].t) = false ∨ ((l[y].t == l[u].t) = true ∧ (l[y].d == l[u].d) = false) ∨ ((l[y].t == l[u].t) = true ∧ (l[y].d == l[u].d) = true ∧ (l[y].s == l[u].s) = false) ∨ ((l[y].t == l[u].t) = true ∧ (l[y].d == l[u].d) = true ∧ (l[y].s == l[u].s) = true ∧ u < y) := by
                by_cases a1 : l[y].t = l[u].t
                · by_cases a2 : l[y].d = l[u].d
                  · by_cases a3 : l[y].s = l[u].s
                    · have hxy : l[y] = l[u] := by
                        cases hA : l[y]; cases hB : l[u]
                        rw [hA, hB] at a1 a2 a3
                        simp only at a1 a2 a3
                        rw [a1, a2, a3]
                      have := HN2.out hxy
                      exact .inr (.inr (.inr ⟨by simp [a1], by simp [a2], by simp [a3], by omega⟩))
                    · exact .inr (.inr (.inl ⟨by simp [a1], by simp [a2], by simp [a3]⟩))
                  · exact .inr (.inl ⟨by simp [a1], by simp [a2]⟩)
                · exact .inl (by simp [a1])
              rcases hcases with k1 | ⟨k1, k2⟩ | ⟨k1, k2, k3⟩ | ⟨k1, k2, k3, k4⟩
              all_goals
                go_wp2_with fail
                have hs5 := HS2.out
                generalize w4.setCell ⟨w3.heap.size, y, none⟩ (.bool true) = w5 at *
                have hbr5 : Below w3.heap.size w3 w5 := hs5.old HW0.out (Nat.le_refl _)
                obtain ⟨A', z1, c5, _⟩ := rd_one elInts ic (HO1.out.later hbr5) (by rw [orderL_length, HLN.out]) i hoi
                obtain ⟨B', z2, c6, _⟩ := rd_one elInts ic (HO1.out.later hbr5) (by rw [orderL_length, HLN.out]) (i - 1) hoj
                rw [HY.out] at c5
                rw [HU.out] at c6
                rw [show ((i - 1 : Nat) : Int) = (i : Int) - 1 from by omega] at z2
                obtain ⟨b5, o5, z3, f0, f1, f2, _⟩ := rd_st (HA.out.later (below_then HB.out hbr5)) rfl y hyl
                obtain ⟨b6, o6, z4, r0, r1, r2, _⟩ := rd_st (HA.out.later (below_then HB.out hbr5)) rfl u hul
                rw [HLN.out] at z3 z4
                have p5 : (0 : Int) ≤ (i : Int) - 1 := by omega
                have p6 : (i : Int) - 1 < (k : Int) := by omega
                have cL : ∀ d os, Calls Try.prog 12 #[l[y].agg, l[u].agg] (grow (redrawn w5 d) os) fun e w'' => e = .returned (.bool (lessS l[y] l[u])) ∧ ∃ p : Regrown, w'' = grow (redrawn w5 p.d) p.os := fun d os => Calls.regrown_of (less_any l[y] l[u] _)
                rw [HN1.out] at cL
                have HS5 := Lib.hid hs5
                clear hs5 hbr5 c1 x1 x2 x3 x4
                go_wp2_with fail
                have kc5 := cell_regrown c5
                have kc6 := cell_regrown c6
                have kf0 := cell_regrown f0
                have kf1 := cell_regrown f1
                have kf2 := cell_regrown f2
                have kr0 := cell_regrown r0
                have kr1 := cell_regrown r1
                have kr2 := cell_regrown r2
                refine wp_region_quiet_below (by kernel_rfl) (by kernel_rfl) ?_
                repeat (go_big_quiet_step (first | exact cL _ _))
                refine wpQuiet_nil ?_
                intro _ hw'
                obtain ⟨⟨dq, osq⟩, hw''⟩ := hw'
                subst hw''
                clear kc5 kc6 kf0 kf1 kf2 kr0 kr1 kr2 cL
                have hb6 := below_regrown w5 dq osq
                generalize grow (redrawn w5 dq) osq = w6 at *
                replace c5 := cell_later hb6 c5
                replace c6 := cell_later hb6 c6
                replace f0 := cell_later hb6 f0
                replace f1 := cell_later hb6 f1
                replace f2 := cell_later hb6 f2
                replace r0 := cell_later hb6 r0
                replace r1 := cell_later hb6 r1
                replace r2 := cell_later hb6 r2
                have hs6 := Lib.hid (HS5.out.later hb6)
                clear hb6 c5 c6 f0 f1 f2 r0 r1 r2
                go_wp2_with fail
                go_roundw
                case rel => exact ⟨i + 1, by omega, by go_num, hs6⟩
                case measure => simp [intOf]; omega
            · go_wp2_with fail
              go_roundw
              case rel => exact ⟨i + 1, by omega, by go_num, HS2⟩
              case measure => simp [intOf]; omega
          · have hik : i = k := by omega
            subst hik
            have HBF := Lib.hid (below_then HB.out hbr)
            clear hbr hsb
            go_wp2_with fail
            go_ret
            exact ⟨rfl, HBF.out⟩

set_option maxRecDepth 100000 in
theorem lifted (os : Os) (started : os.Started) (H : Type) (enc : TypeId × Value → H) :
    ReturnsInHanded {} Try.checked os 8 .any (Rows.clockTurnedSpec.pre6 enc Try.prog Try.f8 Rows.clockTurnedRow.domain false) (Rows.clockTurnedSpec.post enc Try.prog Try.f8 false true false false) := by
  refine returnsInHanded_of_change_sized (C := Try.checked) ownKnob_none started (by kernel_rfl) Try.func8
    (ChangeSpec.witness6 (enc := enc) (C := Try.checked) false ⟨#[], #[.slice none 0 0], []⟩ 8 (by kernel_rfl) (by kernel_rfl) (by kernel_rfl) (by kernel_rfl)) ?_
  intro W base args ds gs before hval0 hW hcnd hsz0 _
  have hval : ∀ (j : Nat) t v, Try.f8.params[j]? = some t → args[j]? = some v → Value.okWide Try.prog W .any base t v := hval0
  have hW' := hW
  obtain ⟨p, q, hA0, hV, rfl, hfz, hnd⟩ := hW
  have hA : DataW.TrodAll enc Try.prog W 0 (fun _ => true) true Try.f8.params.toList args.toList ds p := hA0
  have hsz : (DataW.weightsEach Try.prog (Try.f8.params.toList ++ Rows.clockTurnedSpec.plain.varTypes Try.prog) (ds ++ gs)).all (· ≤ reachBytes) = true := hsz0
  rw [Try.params8] at hA hval hsz
  obtain ⟨v0, vs0, d0, ds0, p0, q0, hargs, rfl, rfl, h0, r0r⟩ := trodAll_cons hA
  obtain ⟨rfl, rfl, rfl⟩ := trodAll_nil r0r
  obtain rfl : args = #[v0] := by cases args; simp_all
  obtain ⟨rfl, rfl⟩ := trodVars_none hV
  have g0 := sized_at hsz (j := 0) rfl rfl
  obtain ⟨y0_0, f0_0⟩ := open_stps (hval 0 31 v0 rfl rfl) h0
  refine (walk v0 y0_0 W f0_0).mono fun e W' ⟨he, hg⟩ => ⟨_, he, law_post laidOut (by kernel_rfl) rfl Try.underlying4 rfl rfl hW' hg⟩

theorem over : Rows.clockTurnedRow.holds Try.pinned (OpenSpec.ofChange Rows.clockTurnedSpec) :=
  OpenClaim.holds_of_wide 8 Try.f8 rfl rfl rfl rfl rfl rfl rfl ⟨rfl, rfl, rfl, rfl, rfl⟩ rfl rfl rfl rfl rfl (by kernel_rfl) Try.func8 (by kernel_rfl)
    (of_decide_eq_true (by kernel_rfl)) (by unfold Func.isWrapper; first | (rw [if_pos (by decide +kernel)]; kernel_rfl) | (rw [if_neg (by decide +kernel)]; exact ⟨rfl, rfl⟩))
    (fun os started H enc _ => lifted os started H enc)

/-- THE STATEMENT. -/
theorem proved : Rows.ClockTurnedSaid :=
  over
#print axioms proved
end Go.Proofs.Ytboblpmpklofgaa.clockTurned
