/-
  The law ZsetOne.
-/
import Derived.Test.YtgmemdhbnnhifaaZ1
namespace Go.Proofs.Ytgmemdhbnnhifaa.zsetOne
open Go.ChangeShapes Go.WideShapes Go.ChangeAt Go.RowKit Go.Sort Go.BigFrame Go.Proofs.Ytgmemdhbnnhifaa
open Go.ChangeMaps (open_string shut_string)

set_option maxRecDepth 100000 in
set_option maxHeartbeats 8000000 in
theorem walk (vl : Value) (l : List It) (vr : Value) (r : List Val) (vs : Value) (s : List Val) (k : Int) (w : World) (hl : IRd w vl l) (fl : ∀ x ∈ l, w64 x.many = x.many) (hr : Rd w vr r.length (rowCs r)) (hs : Rd w vs s.length (rowCs s)) (hk : -9223372036854775808 ≤ k ∧ k ≤ 9223372036854775807) :
    Calls Try.prog 8 #[vl, vr, vs, .int .i64 k] w fun e w' => e = .returned (.bool true) ∧ Below w.heap.size w w' := by
  have HB := Lib.hid (Below.refl w.heap.size w)
  obtain ⟨aol, cl, rfl, _, _, _, _⟩ := id hl.1
  have Hl := Lib.hid hl
  have Fl := Lib.hid fl
  clear hl fl
  obtain ⟨aor, cr, rfl, _, _, _, _⟩ := id hr
  have Hr := Lib.hid hr
  clear hr
  obtain ⟨aos, cs, rfl, _, _, _, _⟩ := id hs
  have Hs := Lib.hid hs
  clear hs
  have Hk := Lib.hid hk
  clear hk
  cases gl : fewB l
  · have Gl := Lib.hid gl
    clear gl
    go_enter Try.func8, Try.ntmps8
    go_wp2_with fail
    refine (awake_any _).mono ?_
    rintro e w0 ⟨rfl, hb⟩
    replace HB := Lib.hid (below_then HB.out (by first | exact hb | exact below_alloc_then hb))
    clear hb
    go_wp2_with fail
    refine (few1_any _ l _ (Hl.out.later HB.out)).mono ?_
    rintro e w0' ⟨rfl, rfl⟩
    rw [Gl.out]
    go_wp2_with fail
    go_ret
    exact ⟨rfl, HB.out⟩
  · have Ll := Lib.hid (fewB_len gl)
    have Gl := Lib.hid gl
    clear gl
    by_cases gr : 20 < r.length
    · have hEr : decide ((20 : Int) < (r.length : Int)) = true := by simp; omega
      go_enter Try.func8, Try.ntmps8
      go_wp2_with fail
      refine (awake_any _).mono ?_
      rintro e w0 ⟨rfl, hb⟩
      replace HB := Lib.hid (below_then HB.out (by first | exact hb | exact below_alloc_then hb))
      clear hb
      go_wp2_with fail
      refine (few1_any _ l _ (Hl.out.later HB.out)).mono ?_
      rintro e w0' ⟨rfl, rfl⟩
      rw [Gl.out]
      go_wp2_with fail
      go_ret
      exact ⟨rfl, HB.out⟩
    · have hEr : decide ((20 : Int) < (r.length : Int)) = false := by simp; omega
      by_cases gs : 20 < s.length
      · have hEs : decide ((20 : Int) < (s.length : Int)) = true := by simp; omega
        go_enter Try.func8, Try.ntmps8
        go_wp2_with fail
        refine (awake_any _).mono ?_
        rintro e w0 ⟨rfl, hb⟩
        replace HB := Lib.hid (below_then HB.out (by first | exact hb | exact below_alloc_then hb))
        clear hb
        go_wp2_with fail
        refine (few1_any _ l _ (Hl.out.later HB.out)).mono ?_
        rintro e w0' ⟨rfl, rfl⟩
        rw [Gl.out]
        go_wp2_with fail
        go_ret
        exact ⟨rfl, HB.out⟩
      · have hEs : decide ((20 : Int) < (s.length : Int)) = false := by simp; omega
        go_enter Try.func8, Try.ntmps8
        go_wp2_with fail
        refine (awake_any _).mono ?_
        rintro e w0 ⟨rfl, hb⟩
        replace HB := Lib.hid (below_then HB.out (by first | exact hb | exact below_alloc_then hb))
        clear hb
        go_wp2_with fail
        refine (few1_any _ l _ (Hl.out.later HB.out)).mono ?_
        rintro e w0' ⟨rfl, rfl⟩
        rw [Gl.out]
        go_wp2_with fail
        refine (of_p (Hl.out.later HB.out) (by have := Ll.out; (try simp only [List.length_append, List.length_map, List.length_cons, List.length_nil] at *); omega) Fl.out).mono ?_
        rintro e w1 ⟨ao1, cc1, C1, rfl, i1, o1, hb⟩
        replace HB := Lib.hid (below_then HB.out (by first | exact hb | exact below_alloc_then hb))
        have I_a := Lib.hid i1
        have O_a := Lib.hid o1
        clear hb i1 o1
        obtain ⟨n, hn⟩ : ∃ n, C1.length = n := ⟨_, rfl⟩
        have hn30 : n ≤ 30 := by have := Ll.out; have := O_a.out.few; omega
        have HN := Lib.hid hn
        rw [hn]
        clear hn
        have hlit : ∀ W, Below w.heap.size w W → IRd (W.alloc (.cells #[.slice aor r.length cr, .int .i64 k, .slice none 0 0] 39)) (.slice (some ⟨W.heap.size, 0, none⟩) 1 1) [⟨aor, r.length, cr, k, none, 0, 0, r⟩] := fun W hW => ⟨rd_lit W _ _ 1 (by decide), fun x hx => by
          rw [List.mem_singleton] at hx; subst hx
          exact Hr.out.later (below_then hW (below_alloc _ _))⟩
        have HLIT := Lib.hid hlit
        clear hlit
        go_wp2_with fail
        refine (add_p (Hl.out.later (below_then HB.out (below_alloc _ _))) (HLIT.out _ HB.out) (by have := Ll.out; simp; omega) Fl.out (by intro x hx; rw [List.mem_singleton] at hx; subst hx; show w64 k = k; have := Hk.out; rw [w64_def]; omega)).mono ?_
        rintro e w2 ⟨ao2, cc2, C2, rfl, i2, o2, hb⟩
        replace HB := Lib.hid (below_then HB.out (by first | exact hb | exact below_alloc_then hb))
        replace I_a := Lib.hid (I_a.out.later (by first | exact hb | exact below_alloc_then hb))
        have I_b := Lib.hid i2
        have O_b := Lib.hid o2
        clear hb i2 o2
        go_wp2_with fail
        go_loopw [12] (fun vi wr => ∃ i : Nat, 1 ≤ i ∧ i ≤ n + 1 ∧ vi = .int .i64 i ∧ Hid (Below w2.heap.size w2 wr)) (fun vi _ => n + 1 - (intOf vi).toNat)
        case atStart => exact ⟨1, Nat.le_refl _, by omega, rfl, Below.refl _ _⟩
        case round =>
          obtain ⟨i, hi1, hin, rfl, hbw⟩ := hrel
          rename World => wr
          by_cases hlt : i < n
          · obtain ⟨j, hj⟩ : ∃ j, i = j + 1 := ⟨i - 1, by omega⟩
            have hil : i < C1.length := by have := HN.out; omega
            have hjl : j < C1.length := by omega
            obtain ⟨b1, o1, x1, c0, _, _, _⟩ := rd_it (I_a.out.1.later hbw.out) rfl i hil
            obtain ⟨b2, o2, x2, d0, _, _, _⟩ := rd_it (I_a.out.1.later hbw.out) rfl j hjl
            rw [HN.out] at x1 x2
            have hvx := (I_a.out.2 _ (List.getElem_mem hil)).later hbw.out
            have hvy := (I_a.out.2 _ (List.getElem_mem hjl)).later hbw.out
            have hless : lessR (C1[j]).row (C1[i]).row = true := List.pairwise_iff_getElem.1 (right_pairs (nrm_right O_a.out.nrm O_a.out.nby)) j i hjl hil (by omega)
            generalize C1[i] = x at *
            generalize C1[j] = y at *
            have HVX := Lib.hid hvx
            have HVY := Lib.hid hvy
            unfold Vit at HVX HVY
            have HLS := Lib.hid hless
            have cS : ∀ d os, Calls Try.prog 26 #[.slice y.ra y.rn y.rc, .slice x.ra x.rn x.rc] (grow (redrawn wr d) os) fun e w'' => e = .returned (.bool true) ∧ ∃ p : Regrown, w'' = grow (redrawn wr p.d) p.os := fun d os => Calls.regrown_of ((by rw [← HLS.out]; exact lessR_any _ _ y.row x.row _ (HVY.out.later (below_regrown wr d os)) (HVX.out.later (below_regrown wr d os))))
            have hq1 : (i : Int) - 1 = (j : Int) := by omega
            have hq2 : (0 : Int) ≤ (j : Int) := by omega
            have hq3 : (j : Int) < (n : Int) := by omega
            have hwr : IntKind.i64.wrap (j : Int) = (j : Int) := by rw [IntKind.wrap_i64]; omega
            have HJ := Lib.hid hj
            clear hj hvx hvy hless
            go_wp2_with fail
            have kc0 := cell_regrown c0
            have kd0 := cell_regrown d0
            refine wp_region_quiet_below (by kernel_rfl) (by kernel_rfl) ?_
            repeat (go_big_quiet_step (first | exact cS _ _))
            refine wpQuiet_nil ?_
            intro _ hw'
            obtain ⟨⟨dq, osq⟩, hw''⟩ := hw'
            subst hw''
            clear kc0 kd0 cS
            have hb2 := below_regrown wr dq osq
            generalize grow (redrawn wr dq) osq = wz at *
            replace c0 := cell_later hb2 c0
            replace d0 := cell_later hb2 d0
            have HB2 := Lib.hid (below_then hbw.out hb2)
            clear hb2
            go_wp2_with fail
            go_roundw
            case rel => exact ⟨i + 1, by omega, by omega, by go_num, HB2.out⟩
            case measure => simp [intOf]; omega
          · have hb := hbw.out
            replace HB := Lib.hid (below_then HB.out (by first | exact hb | exact below_alloc_then hb))
            replace I_a := Lib.hid (I_a.out.later (by first | exact hb | exact below_alloc_then hb))
            replace I_b := Lib.hid (I_b.out.later (by first | exact hb | exact below_alloc_then hb))
            clear hb hbw
            go_wp2_with fail
            refine (many_any _ _ (l) (s) _ (Hl.out.later HB.out) (Hs.out.later HB.out) (by have := Ll.out; have := O_a.out.few; have := O_b.out.few; (try simp only [List.length_append, List.length_map, List.length_cons, List.length_nil] at *); omega)).mono ?_
            rintro e w3 ⟨rfl, hb⟩
            replace HB := Lib.hid (below_then HB.out (by first | exact hb | exact below_alloc_then hb))
            replace I_a := Lib.hid (I_a.out.later (by first | exact hb | exact below_alloc_then hb))
            replace I_b := Lib.hid (I_b.out.later (by first | exact hb | exact below_alloc_then hb))
            clear hb
            cases hsm : sameR r s
            · have HSM := Lib.hid hsm
              go_wp2_with fail
              refine (sameR_any _ _ r s _ (Hr.out.later HB.out) (Hs.out.later HB.out)).mono ?_
              rintro e w4 ⟨rfl, hb⟩
              replace HB := Lib.hid (below_then HB.out (by first | exact hb | exact below_alloc_then hb))
              replace I_a := Lib.hid (I_a.out.later (by first | exact hb | exact below_alloc_then hb))
              replace I_b := Lib.hid (I_b.out.later (by first | exact hb | exact below_alloc_then hb))
              clear hb
              rw [show sameR r s = false from HSM.out]
              go_wp2_with fail
              refine (many_any _ _ (C2) (s) _ I_b.out (Hs.out.later HB.out) (by have := Ll.out; have := O_a.out.few; have := O_b.out.few; (try simp only [List.length_append, List.length_map, List.length_cons, List.length_nil] at *); omega)).mono ?_
              rintro e w5 ⟨rfl, hb⟩
              replace HB := Lib.hid (below_then HB.out (by first | exact hb | exact below_alloc_then hb))
              replace I_a := Lib.hid (I_a.out.later (by first | exact hb | exact below_alloc_then hb))
              replace I_b := Lib.hid (I_b.out.later (by first | exact hb | exact below_alloc_then hb))
              clear hb
              rw [show cnt ((C2).map It.p) (s) = cnt (l.map It.p) s from by rw [O_b.out.cnt s, cnt_add]; exact one_cnt0 HSM.out]
              go_wp2_with fail
              refine (rightI_any _ (l) _ (Hl.out.later HB.out) (by have := Ll.out; have := O_a.out.few; have := O_b.out.few; (try simp only [List.length_append, List.length_map, List.length_cons, List.length_nil] at *); omega)).mono ?_
              rintro e w6 ⟨b6, rfl, hr6, hb⟩
              replace HB := Lib.hid (below_then HB.out (by first | exact hb | exact below_alloc_then hb))
              replace I_a := Lib.hid (I_a.out.later (by first | exact hb | exact below_alloc_then hb))
              replace I_b := Lib.hid (I_b.out.later (by first | exact hb | exact below_alloc_then hb))
              clear hb
              cases b6
              · go_wp2_with fail
                go_ret
                exact ⟨rfl, HB.out⟩
              · have HP := Lib.hid (hr6.1 rfl)
                clear hr6
                go_wp2_with fail
                refine (refSameI_any _ _ C1 l _ (by have := I_a.out; rw [HN.out] at this; exact this) (Hl.out.later HB.out) (by have := HN.out; omega)).mono ?_
                rintro e w7 ⟨rfl, hb⟩
                replace HB := Lib.hid (below_then HB.out (by first | exact hb | exact below_alloc_then hb))
                replace I_a := Lib.hid (I_a.out.later (by first | exact hb | exact below_alloc_then hb))
                replace I_b := Lib.hid (I_b.out.later (by first | exact hb | exact below_alloc_then hb))
                clear hb
                rw [show sameI C1 l = true from decide_eq_true (nrm_unique O_a.out.nrm (right_nrm HP.out Fl.out) fun r => O_a.out.cnt r)]
                go_wp2_with fail
                go_ret
                exact ⟨rfl, HB.out⟩
            · have HSM := Lib.hid hsm
              go_wp2_with fail
              refine (sameR_any _ _ r s _ (Hr.out.later HB.out) (Hs.out.later HB.out)).mono ?_
              rintro e w4 ⟨rfl, hb⟩
              replace HB := Lib.hid (below_then HB.out (by first | exact hb | exact below_alloc_then hb))
              replace I_a := Lib.hid (I_a.out.later (by first | exact hb | exact below_alloc_then hb))
              replace I_b := Lib.hid (I_b.out.later (by first | exact hb | exact below_alloc_then hb))
              clear hb
              rw [show sameR r s = true from HSM.out]
              go_wp2_with fail
              refine (many_any _ _ (C2) (s) _ I_b.out (Hs.out.later HB.out) (by have := Ll.out; have := O_a.out.few; have := O_b.out.few; (try simp only [List.length_append, List.length_map, List.length_cons, List.length_nil] at *); omega)).mono ?_
              rintro e w5 ⟨rfl, hb⟩
              replace HB := Lib.hid (below_then HB.out (by first | exact hb | exact below_alloc_then hb))
              replace I_a := Lib.hid (I_a.out.later (by first | exact hb | exact below_alloc_then hb))
              replace I_b := Lib.hid (I_b.out.later (by first | exact hb | exact below_alloc_then hb))
              clear hb
              rw [show cnt ((C2).map It.p) (s) = wrap64 (cnt (l.map It.p) s + k) from by rw [O_b.out.cnt s, cnt_add]; exact one_cnt1 HSM.out]
              go_wp2_with fail
              refine (rightI_any _ (l) _ (Hl.out.later HB.out) (by have := Ll.out; have := O_a.out.few; have := O_b.out.few; (try simp only [List.length_append, List.length_map, List.length_cons, List.length_nil] at *); omega)).mono ?_
              rintro e w6 ⟨b6, rfl, hr6, hb⟩
              replace HB := Lib.hid (below_then HB.out (by first | exact hb | exact below_alloc_then hb))
              replace I_a := Lib.hid (I_a.out.later (by first | exact hb | exact below_alloc_then hb))
              replace I_b := Lib.hid (I_b.out.later (by first | exact hb | exact below_alloc_then hb))
              clear hb
              cases b6
              · go_wp2_with fail
                go_ret
                exact ⟨rfl, HB.out⟩
              · have HP := Lib.hid (hr6.1 rfl)
                clear hr6
                go_wp2_with fail
                refine (refSameI_any _ _ C1 l _ (by have := I_a.out; rw [HN.out] at this; exact this) (Hl.out.later HB.out) (by have := HN.out; omega)).mono ?_
                rintro e w7 ⟨rfl, hb⟩
                replace HB := Lib.hid (below_then HB.out (by first | exact hb | exact below_alloc_then hb))
                replace I_a := Lib.hid (I_a.out.later (by first | exact hb | exact below_alloc_then hb))
                replace I_b := Lib.hid (I_b.out.later (by first | exact hb | exact below_alloc_then hb))
                clear hb
                rw [show sameI C1 l = true from decide_eq_true (nrm_unique O_a.out.nrm (right_nrm HP.out Fl.out) fun r => O_a.out.cnt r)]
                go_wp2_with fail
                go_ret
                exact ⟨rfl, HB.out⟩

set_option maxRecDepth 100000 in
theorem lifted (os : Os) (started : os.Started) (H : Type) (enc : TypeId × Value → H) :
    ReturnsInHanded {} Try.checked os 8 .any (Rows.zsetOneSpec.pre6 enc Try.prog Try.f8 Rows.zsetOneRow.domain false) (Rows.zsetOneSpec.post enc Try.prog Try.f8 false true false false) := by
  refine returnsInHanded_of_change_sized (C := Try.checked) ownKnob_none started (by kernel_rfl) Try.func8
    (ChangeSpec.witness6 (enc := enc) (C := Try.checked) false ⟨#[], #[.slice none 0 0, .slice none 0 0, .slice none 0 0, .int .i64 0], []⟩ 8 (by kernel_rfl) (by kernel_rfl) (by kernel_rfl) (by kernel_rfl)) ?_
  intro W base args ds gs before hval0 hW hcnd hsz0 _
  have hval : ∀ (j : Nat) t v, Try.f8.params[j]? = some t → args[j]? = some v → Value.okWide Try.prog W .any base t v := hval0
  have hW' := hW
  obtain ⟨p, q, hA0, hV, rfl, hfz, hnd⟩ := hW
  have hA : DataW.TrodAll enc Try.prog W 0 (fun _ => true) true Try.f8.params.toList args.toList ds p := hA0
  have hsz : (DataW.weightsEach Try.prog (Try.f8.params.toList ++ Rows.zsetOneSpec.plain.varTypes Try.prog) (ds ++ gs)).all (· ≤ reachBytes) = true := hsz0
  rw [Try.params8] at hA hval hsz
  obtain ⟨v0, vs0, d0, ds0, p0, q0, hargs, rfl, rfl, h0, r0r⟩ := trodAll_cons hA
  obtain ⟨v1, vs1, d1, ds1, p1, q1, rfl, rfl, rfl, h1, r1r⟩ := trodAll_cons r0r
  obtain ⟨v2, vs2, d2, ds2, p2, q2, rfl, rfl, rfl, h2, r2r⟩ := trodAll_cons r1r
  obtain ⟨v3, vs3, d3, ds3, p3, q3, rfl, rfl, rfl, h3, r3r⟩ := trodAll_cons r2r
  obtain ⟨rfl, rfl, rfl⟩ := trodAll_nil r3r
  obtain rfl : args = #[v0, v1, v2, v3] := by cases args; simp_all
  obtain ⟨rfl, rfl⟩ := trodVars_none hV
  have g0 := sized_at hsz (j := 0) rfl rfl
  have g1 := sized_at hsz (j := 1) rfl rfl
  have g2 := sized_at hsz (j := 2) rfl rfl
  have g3 := sized_at hsz (j := 3) rfl rfl
  obtain ⟨y0_0, f0_0, f0_1⟩ := open_items (hval 0 22 v0 rfl rfl) h0
  obtain ⟨y1_0, f1_0⟩ := open_row (hval 1 24 v1 rfl rfl) h1
  obtain ⟨y2_0, f2_0⟩ := open_row (hval 2 24 v2 rfl rfl) h2
  obtain ⟨a3, rfl, rfl, rfl, w3⟩ := open_int Try.underlying3 (hval 3 3 v3 rfl rfl) h3
  refine (walk v0 y0_0 v1 y1_0 v2 y2_0 a3 W f0_0 f0_1 f1_0 f2_0 (wf_i64 w3)).mono fun e W' ⟨he, hg⟩ => ⟨_, he, law_post laidOut (by kernel_rfl) rfl Try.underlying4 rfl rfl hW' hg⟩

theorem over : Rows.zsetOneRow.holds Try.pinned (OpenSpec.ofChange Rows.zsetOneSpec) :=
  OpenClaim.holds_of_wide 8 Try.f8 rfl rfl rfl rfl rfl rfl rfl ⟨rfl, rfl, rfl, rfl, rfl⟩ rfl rfl rfl rfl rfl (by kernel_rfl) Try.func8 (by kernel_rfl)
    (of_decide_eq_true (by kernel_rfl)) (by unfold Func.isWrapper; first | (rw [if_pos (by decide +kernel)]; kernel_rfl) | (rw [if_neg (by decide +kernel)]; exact ⟨rfl, rfl⟩))
    (fun os started H enc _ => lifted os started H enc)

/-- THE STATEMENT. -/
theorem proved : Rows.ZsetOneSaid :=
  over
#print axioms proved
end Go.Proofs.Ytgmemdhbnnhifaa.zsetOne
