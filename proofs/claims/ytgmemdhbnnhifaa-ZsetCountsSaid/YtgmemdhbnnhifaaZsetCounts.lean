/-
  The law ZsetCounts.
-/
import Derived.Test.YtgmemdhbnnhifaaZ1
namespace Go.Proofs.Ytgmemdhbnnhifaa.zsetCounts
open Go.ChangeShapes Go.WideShapes Go.ChangeAt Go.RowKit Go.Sort Go.BigFrame Go.Proofs.Ytgmemdhbnnhifaa
open Go.ChangeMaps (open_string shut_string)

set_option maxRecDepth 100000 in
set_option maxHeartbeats 8000000 in
theorem walk (va : Value) (a : List It) (vb : Value) (b : List It) (vr : Value) (r : List Val) (k : Int) (w : World) (ha : IRd w va a) (fa : ∀ x ∈ a, w64 x.many = x.many) (hb : IRd w vb b) (fb : ∀ x ∈ b, w64 x.many = x.many) (hr : Rd w vr r.length (rowCs r)) (hk : -9223372036854775808 ≤ k ∧ k ≤ 9223372036854775807) :
    Calls Try.prog 6 #[va, vb, vr, .int .i64 k] w fun e w' => e = .returned (.bool true) ∧ Below w.heap.size w w' := by
  have HB := Lib.hid (Below.refl w.heap.size w)
  obtain ⟨aoa, ca, rfl, _, _, _, _⟩ := id ha.1
  have Ha := Lib.hid ha
  have Fa := Lib.hid fa
  clear ha fa
  obtain ⟨aob, cb, rfl, _, _, _, _⟩ := id hb.1
  have Hb := Lib.hid hb
  have Fb := Lib.hid fb
  clear hb fb
  obtain ⟨aor, cr, rfl, _, _, _, _⟩ := id hr
  have Hr := Lib.hid hr
  clear hr
  have Hk := Lib.hid hk
  clear hk
  cases ga : fewB a
  · have Ga := Lib.hid ga
    clear ga
    go_enter Try.func6, Try.ntmps6
    go_wp2_with fail
    refine (awake_any _).mono ?_
    rintro e w0 ⟨rfl, hb⟩
    replace HB := Lib.hid (below_then HB.out (by first | exact hb | exact below_alloc_then hb))
    clear hb
    go_wp2_with fail
    refine (few1_any _ a _ (Ha.out.later HB.out)).mono ?_
    rintro e w0' ⟨rfl, rfl⟩
    rw [Ga.out]
    go_wp2_with fail
    go_ret
    exact ⟨rfl, HB.out⟩
  · have La := Lib.hid (fewB_len ga)
    have Ga := Lib.hid ga
    clear ga
    cases gb : fewB b
    · have Gb := Lib.hid gb
      clear gb
      go_enter Try.func6, Try.ntmps6
      go_wp2_with fail
      refine (awake_any _).mono ?_
      rintro e w0 ⟨rfl, hb⟩
      replace HB := Lib.hid (below_then HB.out (by first | exact hb | exact below_alloc_then hb))
      clear hb
      go_wp2_with fail
      refine (few1_any _ a _ (Ha.out.later HB.out)).mono ?_
      rintro e w0' ⟨rfl, rfl⟩
      rw [Ga.out]
      go_wp2_with fail
      refine (few1_any _ b _ (Hb.out.later HB.out)).mono ?_
      rintro e w0' ⟨rfl, rfl⟩
      rw [Gb.out]
      go_wp2_with fail
      go_ret
      exact ⟨rfl, HB.out⟩
    · have Lb := Lib.hid (fewB_len gb)
      have Gb := Lib.hid gb
      clear gb
      by_cases gr : 20 < r.length
      · have hEr : decide ((20 : Int) < (r.length : Int)) = true := by simp; omega
        go_enter Try.func6, Try.ntmps6
        go_wp2_with fail
        refine (awake_any _).mono ?_
        rintro e w0 ⟨rfl, hb⟩
        replace HB := Lib.hid (below_then HB.out (by first | exact hb | exact below_alloc_then hb))
        clear hb
        go_wp2_with fail
        refine (few1_any _ a _ (Ha.out.later HB.out)).mono ?_
        rintro e w0' ⟨rfl, rfl⟩
        rw [Ga.out]
        go_wp2_with fail
        refine (few1_any _ b _ (Hb.out.later HB.out)).mono ?_
        rintro e w0' ⟨rfl, rfl⟩
        rw [Gb.out]
        go_wp2_with fail
        go_ret
        exact ⟨rfl, HB.out⟩
      · have hEr : decide ((20 : Int) < (r.length : Int)) = false := by simp; omega
        go_enter Try.func6, Try.ntmps6
        go_wp2_with fail
        refine (awake_any _).mono ?_
        rintro e w0 ⟨rfl, hb⟩
        replace HB := Lib.hid (below_then HB.out (by first | exact hb | exact below_alloc_then hb))
        clear hb
        go_wp2_with fail
        refine (few1_any _ a _ (Ha.out.later HB.out)).mono ?_
        rintro e w0' ⟨rfl, rfl⟩
        rw [Ga.out]
        go_wp2_with fail
        refine (few1_any _ b _ (Hb.out.later HB.out)).mono ?_
        rintro e w0' ⟨rfl, rfl⟩
        rw [Gb.out]
        go_wp2_with fail
        refine (many_any _ _ (a) (r) _ (Ha.out.later HB.out) (Hr.out.later HB.out) (by have := La.out; have := Lb.out; (try simp only [List.length_append, List.length_map, List.length_cons, List.length_nil] at *); omega)).mono ?_
        rintro e w1 ⟨rfl, hb⟩
        replace HB := Lib.hid (below_then HB.out (by first | exact hb | exact below_alloc_then hb))
        clear hb
        go_wp2_with fail
        refine (many_any _ _ (b) (r) _ (Hb.out.later HB.out) (Hr.out.later HB.out) (by have := La.out; have := Lb.out; (try simp only [List.length_append, List.length_map, List.length_cons, List.length_nil] at *); omega)).mono ?_
        rintro e w2 ⟨rfl, hb⟩
        replace HB := Lib.hid (below_then HB.out (by first | exact hb | exact below_alloc_then hb))
        clear hb
        by_cases hp : 0 < cnt (a.map It.p) r
        · have HP := Lib.hid hp
          go_wp2_with fail
          refine (of_p (Ha.out.later HB.out) (by have := La.out; have := Lb.out; (try simp only [List.length_append, List.length_map, List.length_cons, List.length_nil] at *); omega) Fa.out).mono ?_
          rintro e w3 ⟨ao3, cc3, C3, rfl, i3, o3, hb⟩
          replace HB := Lib.hid (below_then HB.out (by first | exact hb | exact below_alloc_then hb))
          have I_x := Lib.hid i3
          have O_x := Lib.hid o3
          clear hb i3 o3
          go_wp2_with fail
          refine (many_any _ _ (C3) (r) _ I_x.out (Hr.out.later HB.out) (by have := La.out; have := Lb.out; have := O_x.out.few; (try simp only [List.length_append, List.length_map, List.length_cons, List.length_nil] at *); omega)).mono ?_
          rintro e w4 ⟨rfl, hb⟩
          replace HB := Lib.hid (below_then HB.out (by first | exact hb | exact below_alloc_then hb))
          replace I_x := Lib.hid (I_x.out.later (by first | exact hb | exact below_alloc_then hb))
          clear hb
          rw [show cnt ((C3).map It.p) (r) = cnt (a.map It.p) r from O_x.out.cnt r]
          go_wp2_with fail
          refine (add_p (Ha.out.later HB.out) (Hb.out.later HB.out) (by have := La.out; have := Lb.out; have := O_x.out.few; (try simp only [List.length_append, List.length_map, List.length_cons, List.length_nil] at *); omega) Fa.out Fb.out).mono ?_
          rintro e w5 ⟨ao5, cc5, C5, rfl, i5, o5, hb⟩
          replace HB := Lib.hid (below_then HB.out (by first | exact hb | exact below_alloc_then hb))
          have I_y := Lib.hid i5
          have O_y := Lib.hid o5
          clear hb i5 o5
          go_wp2_with fail
          refine (many_any _ _ (C5) (r) _ I_y.out (Hr.out.later HB.out) (by have := La.out; have := Lb.out; have := O_x.out.few; have := O_y.out.few; (try simp only [List.length_append, List.length_map, List.length_cons, List.length_nil] at *); omega)).mono ?_
          rintro e w6 ⟨rfl, hb⟩
          replace HB := Lib.hid (below_then HB.out (by first | exact hb | exact below_alloc_then hb))
          replace I_y := Lib.hid (I_y.out.later (by first | exact hb | exact below_alloc_then hb))
          clear hb
          rw [show cnt ((C5).map It.p) (r) = wrap64 (cnt (a.map It.p) r + cnt (b.map It.p) r) from by rw [O_y.out.cnt r, cnt_add, w64_wrap]]
          go_wp2_with fail
          refine (scale_p (k) (Ha.out.later HB.out) (by have := La.out; have := Lb.out; have := O_x.out.few; have := O_y.out.few; (try simp only [List.length_append, List.length_map, List.length_cons, List.length_nil] at *); omega)).mono ?_
          rintro e w7 ⟨ao7, cc7, C7, rfl, i7, o7, hb⟩
          replace HB := Lib.hid (below_then HB.out (by first | exact hb | exact below_alloc_then hb))
          have I_z := Lib.hid i7
          have O_z := Lib.hid o7
          clear hb i7 o7
          go_wp2_with fail
          refine (many_any _ _ (C7) (r) _ I_z.out (Hr.out.later HB.out) (by have := La.out; have := Lb.out; have := O_x.out.few; have := O_y.out.few; have := O_z.out.few; (try simp only [List.length_append, List.length_map, List.length_cons, List.length_nil] at *); omega)).mono ?_
          rintro e w8 ⟨rfl, hb⟩
          replace HB := Lib.hid (below_then HB.out (by first | exact hb | exact below_alloc_then hb))
          replace I_z := Lib.hid (I_z.out.later (by first | exact hb | exact below_alloc_then hb))
          clear hb
          rw [show cnt ((C7).map It.p) (r) = wrap64 (cnt (a.map It.p) r * k) from by rw [O_z.out.cnt r, cnt_scale, w64_wrap]]
          go_wp2_with fail
          refine (set_p (Ha.out.later HB.out) (by have := La.out; have := Lb.out; have := O_x.out.few; have := O_y.out.few; have := O_z.out.few; (try simp only [List.length_append, List.length_map, List.length_cons, List.length_nil] at *); omega) Fa.out).mono ?_
          rintro e w9 ⟨ao9, cc9, C9, rfl, i9, o9, hb⟩
          replace HB := Lib.hid (below_then HB.out (by first | exact hb | exact below_alloc_then hb))
          have I_s := Lib.hid i9
          have O_s := Lib.hid o9
          clear hb i9 o9
          go_wp2_with fail
          refine (many_any _ _ (setI C9) r _ I_s.out (Hr.out.later HB.out) (by have := La.out; have := O_s.out.few; have : (setI C9).length ≤ C9.length := (by unfold setI; rw [List.length_map]; exact List.length_filter_le _ _); omega)).mono ?_
          rintro e w10 ⟨rfl, hb⟩
          replace HB := Lib.hid (below_then HB.out (by first | exact hb | exact below_alloc_then hb))
          replace I_s := Lib.hid (I_s.out.later (by first | exact hb | exact below_alloc_then hb))
          clear hb
          rw [show cnt ((setI C9).map It.p) r = 1 from by rw [setI_p O_s.out.nrm, cnt_once O_s.out.nrm, O_s.out.cnt r]; exact if_pos (by have := HP.out; omega)]
          go_wp2_with fail
          go_ret
          exact ⟨rfl, HB.out⟩
        · have HP := Lib.hid hp
          go_wp2_with fail
          refine (of_p (Ha.out.later HB.out) (by have := La.out; have := Lb.out; (try simp only [List.length_append, List.length_map, List.length_cons, List.length_nil] at *); omega) Fa.out).mono ?_
          rintro e w3 ⟨ao3, cc3, C3, rfl, i3, o3, hb⟩
          replace HB := Lib.hid (below_then HB.out (by first | exact hb | exact below_alloc_then hb))
          have I_x := Lib.hid i3
          have O_x := Lib.hid o3
          clear hb i3 o3
          go_wp2_with fail
          refine (many_any _ _ (C3) (r) _ I_x.out (Hr.out.later HB.out) (by have := La.out; have := Lb.out; have := O_x.out.few; (try simp only [List.length_append, List.length_map, List.length_cons, List.length_nil] at *); omega)).mono ?_
          rintro e w4 ⟨rfl, hb⟩
          replace HB := Lib.hid (below_then HB.out (by first | exact hb | exact below_alloc_then hb))
          replace I_x := Lib.hid (I_x.out.later (by first | exact hb | exact below_alloc_then hb))
          clear hb
          rw [show cnt ((C3).map It.p) (r) = cnt (a.map It.p) r from O_x.out.cnt r]
          go_wp2_with fail
          refine (add_p (Ha.out.later HB.out) (Hb.out.later HB.out) (by have := La.out; have := Lb.out; have := O_x.out.few; (try simp only [List.length_append, List.length_map, List.length_cons, List.length_nil] at *); omega) Fa.out Fb.out).mono ?_
          rintro e w5 ⟨ao5, cc5, C5, rfl, i5, o5, hb⟩
          replace HB := Lib.hid (below_then HB.out (by first | exact hb | exact below_alloc_then hb))
          have I_y := Lib.hid i5
          have O_y := Lib.hid o5
          clear hb i5 o5
          go_wp2_with fail
          refine (many_any _ _ (C5) (r) _ I_y.out (Hr.out.later HB.out) (by have := La.out; have := Lb.out; have := O_x.out.few; have := O_y.out.few; (try simp only [List.length_append, List.length_map, List.length_cons, List.length_nil] at *); omega)).mono ?_
          rintro e w6 ⟨rfl, hb⟩
          replace HB := Lib.hid (below_then HB.out (by first | exact hb | exact below_alloc_then hb))
          replace I_y := Lib.hid (I_y.out.later (by first | exact hb | exact below_alloc_then hb))
          clear hb
          rw [show cnt ((C5).map It.p) (r) = wrap64 (cnt (a.map It.p) r + cnt (b.map It.p) r) from by rw [O_y.out.cnt r, cnt_add, w64_wrap]]
          go_wp2_with fail
          refine (scale_p (k) (Ha.out.later HB.out) (by have := La.out; have := Lb.out; have := O_x.out.few; have := O_y.out.few; (try simp only [List.length_append, List.length_map, List.length_cons, List.length_nil] at *); omega)).mono ?_
          rintro e w7 ⟨ao7, cc7, C7, rfl, i7, o7, hb⟩
          replace HB := Lib.hid (below_then HB.out (by first | exact hb | exact below_alloc_then hb))
          have I_z := Lib.hid i7
          have O_z := Lib.hid o7
          clear hb i7 o7
          go_wp2_with fail
          refine (many_any _ _ (C7) (r) _ I_z.out (Hr.out.later HB.out) (by have := La.out; have := Lb.out; have := O_x.out.few; have := O_y.out.few; have := O_z.out.few; (try simp only [List.length_append, List.length_map, List.length_cons, List.length_nil] at *); omega)).mono ?_
          rintro e w8 ⟨rfl, hb⟩
          replace HB := Lib.hid (below_then HB.out (by first | exact hb | exact below_alloc_then hb))
          replace I_z := Lib.hid (I_z.out.later (by first | exact hb | exact below_alloc_then hb))
          clear hb
          rw [show cnt ((C7).map It.p) (r) = wrap64 (cnt (a.map It.p) r * k) from by rw [O_z.out.cnt r, cnt_scale, w64_wrap]]
          go_wp2_with fail
          refine (set_p (Ha.out.later HB.out) (by have := La.out; have := Lb.out; have := O_x.out.few; have := O_y.out.few; have := O_z.out.few; (try simp only [List.length_append, List.length_map, List.length_cons, List.length_nil] at *); omega) Fa.out).mono ?_
          rintro e w9 ⟨ao9, cc9, C9, rfl, i9, o9, hb⟩
          replace HB := Lib.hid (below_then HB.out (by first | exact hb | exact below_alloc_then hb))
          have I_s := Lib.hid i9
          have O_s := Lib.hid o9
          clear hb i9 o9
          go_wp2_with fail
          refine (many_any _ _ (setI C9) r _ I_s.out (Hr.out.later HB.out) (by have := La.out; have := O_s.out.few; have : (setI C9).length ≤ C9.length := (by unfold setI; rw [List.length_map]; exact List.length_filter_le _ _); omega)).mono ?_
          rintro e w10 ⟨rfl, hb⟩
          replace HB := Lib.hid (below_then HB.out (by first | exact hb | exact below_alloc_then hb))
          replace I_s := Lib.hid (I_s.out.later (by first | exact hb | exact below_alloc_then hb))
          clear hb
          rw [show cnt ((setI C9).map It.p) r = 0 from by rw [setI_p O_s.out.nrm, cnt_once O_s.out.nrm, O_s.out.cnt r]; exact if_neg (by have := HP.out; omega)]
          go_wp2_with fail
          go_ret
          exact ⟨rfl, HB.out⟩

set_option maxRecDepth 100000 in
theorem lifted (os : Os) (started : os.Started) (H : Type) (enc : TypeId × Value → H) :
    ReturnsInHanded {} Try.checked os 6 .any (Rows.zsetCountsSpec.pre6 enc Try.prog Try.f6 Rows.zsetCountsRow.domain false) (Rows.zsetCountsSpec.post enc Try.prog Try.f6 false true false false) := by
  refine returnsInHanded_of_change_sized (C := Try.checked) ownKnob_none started (by kernel_rfl) Try.func6
    (ChangeSpec.witness6 (enc := enc) (C := Try.checked) false ⟨#[], #[.slice none 0 0, .slice none 0 0, .slice none 0 0, .int .i64 0], []⟩ 8 (by kernel_rfl) (by kernel_rfl) (by kernel_rfl) (by kernel_rfl)) ?_
  intro W base args ds gs before hval0 hW hcnd hsz0 _
  have hval : ∀ (j : Nat) t v, Try.f6.params[j]? = some t → args[j]? = some v → Value.okWide Try.prog W .any base t v := hval0
  have hW' := hW
  obtain ⟨p, q, hA0, hV, rfl, hfz, hnd⟩ := hW
  have hA : DataW.TrodAll enc Try.prog W 0 (fun _ => true) true Try.f6.params.toList args.toList ds p := hA0
  have hsz : (DataW.weightsEach Try.prog (Try.f6.params.toList ++ Rows.zsetCountsSpec.plain.varTypes Try.prog) (ds ++ gs)).all (· ≤ reachBytes) = true := hsz0
  rw [Try.params6] at hA hval hsz
  obtain ⟨v0, vs0, d0, ds0, p0, q0, hargs, rfl, rfl, h0, r0r⟩ := trodAll_cons hA
  obtain ⟨v1, vs1, d1, ds1, p1, q1, rfl, rfl, rfl, h1, r1r⟩ := trodAll_cons r0r
  obtain ⟨v2, vs2, d2, ds2, p2, q2, rfl, rfl, rfl, h2, r2r⟩ := trodAll_cons r1r
  obtain ⟨v3, vs3, d3, ds3, p3, q3, rfl, rfl, rfl, h3, r3r⟩ := trodAll_cons r2r
  obtain ⟨rfl, rfl, rfl⟩ := trodAll_nil r3r
  obtain rfl : args = #[v0, v1, v2, v3] := by cases args; simp_all
  obtain ⟨rfl, rfl⟩ := trodVars_none hV
  have g0 := sized_at hsz (j := 0) rfl rfl
  have g1 := sized_at hsz (j := 1) rfl rfl
  have g2 := sized_at hsz (j := 2) rfl rfl
  have g3 := sized_at hsz (j := 3) rfl rfl
  obtain ⟨y0_0, f0_0, f0_1⟩ := open_items (hval 0 22 v0 rfl rfl) h0
  obtain ⟨y1_0, f1_0, f1_1⟩ := open_items (hval 1 22 v1 rfl rfl) h1
  obtain ⟨y2_0, f2_0⟩ := open_row (hval 2 24 v2 rfl rfl) h2
  obtain ⟨a3, rfl, rfl, rfl, w3⟩ := open_int Try.underlying3 (hval 3 3 v3 rfl rfl) h3
  refine (walk v0 y0_0 v1 y1_0 v2 y2_0 a3 W f0_0 f0_1 f1_0 f1_1 f2_0 (wf_i64 w3)).mono fun e W' ⟨he, hg⟩ => ⟨_, he, law_post laidOut (by kernel_rfl) rfl Try.underlying4 rfl rfl hW' hg⟩

theorem over : Rows.zsetCountsRow.holds Try.pinned (OpenSpec.ofChange Rows.zsetCountsSpec) :=
  OpenClaim.holds_of_wide 6 Try.f6 rfl rfl rfl rfl rfl rfl rfl ⟨rfl, rfl, rfl, rfl, rfl⟩ rfl rfl rfl rfl rfl (by kernel_rfl) Try.func6 (by kernel_rfl)
    (of_decide_eq_true (by kernel_rfl)) (by unfold Func.isWrapper; first | (rw [if_pos (by decide +kernel)]; kernel_rfl) | (rw [if_neg (by decide +kernel)]; exact ⟨rfl, rfl⟩))
    (fun os started H enc _ => lifted os started H enc)

/-- THE STATEMENT. -/
theorem proved : Rows.ZsetCountsSaid :=
  over
#print axioms proved
end Go.Proofs.Ytgmemdhbnnhifaa.zsetCounts
