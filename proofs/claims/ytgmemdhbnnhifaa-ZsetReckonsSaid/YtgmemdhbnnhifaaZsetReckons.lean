/-
  The law ZsetReckons.
-/
import Derived.Test.YtgmemdhbnnhifaaZ1
namespace Go.Proofs.Ytgmemdhbnnhifaa.zsetReckons
open Go.ChangeShapes Go.WideShapes Go.ChangeAt Go.RowKit Go.Sort Go.BigFrame Go.Proofs.Ytgmemdhbnnhifaa
open Go.ChangeMaps (open_string shut_string)

set_option maxRecDepth 100000 in
set_option maxHeartbeats 8000000 in
theorem walk (va : Value) (a : List It) (vb : Value) (b : List It) (k : Int) (w : World) (ha : IRd w va a) (fa : ∀ x ∈ a, w64 x.many = x.many) (hb : IRd w vb b) (fb : ∀ x ∈ b, w64 x.many = x.many) (hk : -9223372036854775808 ≤ k ∧ k ≤ 9223372036854775807) :
    Calls Try.prog 4 #[va, vb, .int .i64 k] w fun e w' => e = .returned (.bool true) ∧ Below w.heap.size w w' := by
  have HB := Lib.hid (Below.refl w.heap.size w)
  obtain ⟨aoa, ca, rfl, _, _, _, _⟩ := id ha.1
  have Ha := Lib.hid ha
  have Fa := Lib.hid fa
  clear ha fa
  obtain ⟨aob, cb, rfl, _, _, _, _⟩ := id hb.1
  have Hb := Lib.hid hb
  have Fb := Lib.hid fb
  clear hb fb
  have Hk := Lib.hid hk
  clear hk
  cases ga : fewB a
  · have Ga := Lib.hid ga
    clear ga
    go_enter Try.func4, Try.ntmps4
    go_wp2_with fail
    refine (awake_any _).mono ?_
    rintro e w0 ⟨rfl, hb⟩
    replace HB := Lib.hid (below_then HB.out (by first | exact hb | exact below_alloc_then hb))
    clear hb
    go_wp2_with fail
    refine (few1_any _ a _ (Ha.out.later HB.out)).mono ?_
    rintro e w0' ⟨rfl, rfl⟩
    rw [Ga.out]
    go_wp2_with fail
    go_ret
    exact ⟨rfl, HB.out⟩
  · have La := Lib.hid (fewB_len ga)
    have Ga := Lib.hid ga
    clear ga
    cases gb : fewB b
    · have Gb := Lib.hid gb
      clear gb
      go_enter Try.func4, Try.ntmps4
      go_wp2_with fail
      refine (awake_any _).mono ?_
      rintro e w0 ⟨rfl, hb⟩
      replace HB := Lib.hid (below_then HB.out (by first | exact hb | exact below_alloc_then hb))
      clear hb
      go_wp2_with fail
      refine (few1_any _ a _ (Ha.out.later HB.out)).mono ?_
      rintro e w0' ⟨rfl, rfl⟩
      rw [Ga.out]
      go_wp2_with fail
      refine (few1_any _ b _ (Hb.out.later HB.out)).mono ?_
      rintro e w0' ⟨rfl, rfl⟩
      rw [Gb.out]
      go_wp2_with fail
      go_ret
      exact ⟨rfl, HB.out⟩
    · have Lb := Lib.hid (fewB_len gb)
      have Gb := Lib.hid gb
      clear gb
      go_enter Try.func4, Try.ntmps4
      go_wp2_with fail
      refine (awake_any _).mono ?_
      rintro e w0 ⟨rfl, hb⟩
      replace HB := Lib.hid (below_then HB.out (by first | exact hb | exact below_alloc_then hb))
      clear hb
      go_wp2_with fail
      refine (few1_any _ a _ (Ha.out.later HB.out)).mono ?_
      rintro e w0' ⟨rfl, rfl⟩
      rw [Ga.out]
      go_wp2_with fail
      refine (few1_any _ b _ (Hb.out.later HB.out)).mono ?_
      rintro e w0' ⟨rfl, rfl⟩
      rw [Gb.out]
      go_wp2_with fail
      refine (add_p (Ha.out.later HB.out) (Hb.out.later HB.out) (by have := La.out; have := Lb.out; (try simp only [List.length_append, List.length_map, List.length_cons, List.length_nil] at *); omega) Fa.out Fb.out).mono ?_
      rintro e w1 ⟨ao1, cc1, C1, rfl, i1, o1, hb⟩
      replace HB := Lib.hid (below_then HB.out (by first | exact hb | exact below_alloc_then hb))
      have I_x := Lib.hid i1
      have O_x := Lib.hid o1
      clear hb i1 o1
      go_wp2_with fail
      refine (refAdd_p (Ha.out.later HB.out) (Hb.out.later HB.out) (by have := La.out; have := Lb.out; have := O_x.out.few; (try simp only [List.length_append, List.length_map, List.length_cons, List.length_nil] at *); omega) Fa.out Fb.out).mono ?_
      rintro e w2 ⟨ao2, cc2, C2, rfl, i2, o2, hb⟩
      replace HB := Lib.hid (below_then HB.out (by first | exact hb | exact below_alloc_then hb))
      replace I_x := Lib.hid (I_x.out.later (by first | exact hb | exact below_alloc_then hb))
      have I_y := Lib.hid i2
      have O_y := Lib.hid o2
      clear hb i2 o2
      go_wp2_with fail
      refine (refSameI_any _ _ (C1) (C2) _ I_x.out I_y.out (by have := La.out; have := Lb.out; have := O_x.out.few; have := O_y.out.few; (try simp only [List.length_append, List.length_map, List.length_cons, List.length_nil] at *); omega)).mono ?_
      rintro e w3 ⟨rfl, hb⟩
      replace HB := Lib.hid (below_then HB.out (by first | exact hb | exact below_alloc_then hb))
      replace I_x := Lib.hid (I_x.out.later (by first | exact hb | exact below_alloc_then hb))
      replace I_y := Lib.hid (I_y.out.later (by first | exact hb | exact below_alloc_then hb))
      clear hb
      rw [show sameI (C1) (C2) = true from of1_same O_x.out O_y.out fun r => rfl]
      go_wp2_with fail
      refine (scale_p (k) (Ha.out.later HB.out) (by have := La.out; have := Lb.out; have := O_x.out.few; have := O_y.out.few; (try simp only [List.length_append, List.length_map, List.length_cons, List.length_nil] at *); omega)).mono ?_
      rintro e w4 ⟨ao4, cc4, C4, rfl, i4, o4, hb⟩
      replace HB := Lib.hid (below_then HB.out (by first | exact hb | exact below_alloc_then hb))
      have I_x2 := Lib.hid i4
      have O_x2 := Lib.hid o4
      clear hb i4 o4
      go_wp2_with fail
      refine (refScale_p (k) (Ha.out.later HB.out) (by have := La.out; have := Lb.out; have := O_x.out.few; have := O_y.out.few; have := O_x2.out.few; (try simp only [List.length_append, List.length_map, List.length_cons, List.length_nil] at *); omega)).mono ?_
      rintro e w5 ⟨ao5, cc5, C5, rfl, i5, o5, hb⟩
      replace HB := Lib.hid (below_then HB.out (by first | exact hb | exact below_alloc_then hb))
      replace I_x2 := Lib.hid (I_x2.out.later (by first | exact hb | exact below_alloc_then hb))
      have I_y2 := Lib.hid i5
      have O_y2 := Lib.hid o5
      clear hb i5 o5
      go_wp2_with fail
      refine (refSameI_any _ _ (C4) (C5) _ I_x2.out I_y2.out (by have := La.out; have := Lb.out; have := O_x.out.few; have := O_y.out.few; have := O_x2.out.few; have := O_y2.out.few; (try simp only [List.length_append, List.length_map, List.length_cons, List.length_nil] at *); omega)).mono ?_
      rintro e w6 ⟨rfl, hb⟩
      replace HB := Lib.hid (below_then HB.out (by first | exact hb | exact below_alloc_then hb))
      replace I_x2 := Lib.hid (I_x2.out.later (by first | exact hb | exact below_alloc_then hb))
      replace I_y2 := Lib.hid (I_y2.out.later (by first | exact hb | exact below_alloc_then hb))
      clear hb
      rw [show sameI (C4) (C5) = true from of1_same O_x2.out O_y2.out fun r => rfl]
      go_wp2_with fail
      refine (neg_p (Ha.out.later HB.out) (by have := La.out; have := Lb.out; have := O_x.out.few; have := O_y.out.few; have := O_x2.out.few; have := O_y2.out.few; (try simp only [List.length_append, List.length_map, List.length_cons, List.length_nil] at *); omega)).mono ?_
      rintro e w7 ⟨ao7, cc7, C7, rfl, i7, o7, hb⟩
      replace HB := Lib.hid (below_then HB.out (by first | exact hb | exact below_alloc_then hb))
      have I_x3 := Lib.hid i7
      have O_x3 := Lib.hid o7
      clear hb i7 o7
      go_wp2_with fail
      refine (refNeg_p (Ha.out.later HB.out) (by have := La.out; have := Lb.out; have := O_x.out.few; have := O_y.out.few; have := O_x2.out.few; have := O_y2.out.few; have := O_x3.out.few; (try simp only [List.length_append, List.length_map, List.length_cons, List.length_nil] at *); omega)).mono ?_
      rintro e w8 ⟨ao8, cc8, C8, rfl, i8, o8, hb⟩
      replace HB := Lib.hid (below_then HB.out (by first | exact hb | exact below_alloc_then hb))
      replace I_x3 := Lib.hid (I_x3.out.later (by first | exact hb | exact below_alloc_then hb))
      have I_y3 := Lib.hid i8
      have O_y3 := Lib.hid o8
      clear hb i8 o8
      go_wp2_with fail
      refine (refSameI_any _ _ (C7) (C8) _ I_x3.out I_y3.out (by have := La.out; have := Lb.out; have := O_x.out.few; have := O_y.out.few; have := O_x2.out.few; have := O_y2.out.few; have := O_x3.out.few; have := O_y3.out.few; (try simp only [List.length_append, List.length_map, List.length_cons, List.length_nil] at *); omega)).mono ?_
      rintro e w9 ⟨rfl, hb⟩
      replace HB := Lib.hid (below_then HB.out (by first | exact hb | exact below_alloc_then hb))
      replace I_x3 := Lib.hid (I_x3.out.later (by first | exact hb | exact below_alloc_then hb))
      replace I_y3 := Lib.hid (I_y3.out.later (by first | exact hb | exact below_alloc_then hb))
      clear hb
      rw [show sameI (C7) (C8) = true from of1_same O_x3.out O_y3.out fun r => rfl]
      go_wp2_with fail
      refine (set_p (Ha.out.later HB.out) (by have := La.out; have := Lb.out; have := O_x.out.few; have := O_y.out.few; have := O_x2.out.few; have := O_y2.out.few; have := O_x3.out.few; have := O_y3.out.few; (try simp only [List.length_append, List.length_map, List.length_cons, List.length_nil] at *); omega) Fa.out).mono ?_
      rintro e w10 ⟨ao10, cc10, C10, rfl, i10, o10, hb⟩
      replace HB := Lib.hid (below_then HB.out (by first | exact hb | exact below_alloc_then hb))
      have I_x4 := Lib.hid i10
      have O_x4 := Lib.hid o10
      clear hb i10 o10
      go_wp2_with fail
      refine (refSet_p (Ha.out.later HB.out) (by have := La.out; have := Lb.out; have := O_x.out.few; have := O_y.out.few; have := O_x2.out.few; have := O_y2.out.few; have := O_x3.out.few; have := O_y3.out.few; have := O_x4.out.few; (try simp only [List.length_append, List.length_map, List.length_cons, List.length_nil] at *); omega) Fa.out).mono ?_
      rintro e w11 ⟨ao11, cc11, C11, rfl, i11, o11, hb⟩
      replace HB := Lib.hid (below_then HB.out (by first | exact hb | exact below_alloc_then hb))
      replace I_x4 := Lib.hid (I_x4.out.later (by first | exact hb | exact below_alloc_then hb))
      have I_y4 := Lib.hid i11
      have O_y4 := Lib.hid o11
      clear hb i11 o11
      go_wp2_with fail
      refine (refSameI_any _ _ (setI C10) (setF C11) _ I_x4.out I_y4.out (by have := La.out; have := O_x4.out.few; have : (setI C10).length ≤ C10.length := (by unfold setI; rw [List.length_map]; exact List.length_filter_le _ _); omega)).mono ?_
      rintro e w12 ⟨rfl, hb⟩
      replace HB := Lib.hid (below_then HB.out (by first | exact hb | exact below_alloc_then hb))
      replace I_x4 := Lib.hid (I_x4.out.later (by first | exact hb | exact below_alloc_then hb))
      replace I_y4 := Lib.hid (I_y4.out.later (by first | exact hb | exact below_alloc_then hb))
      clear hb
      rw [show sameI (setI C10) (setF C11) = true from decide_eq_true (by rw [setI_p O_x4.out.nrm, setF_p, of1_eq O_x4.out O_y4.out fun r => rfl])]
      go_wp2_with fail
      go_ret
      exact ⟨rfl, HB.out⟩

set_option maxRecDepth 100000 in
theorem lifted (os : Os) (started : os.Started) (H : Type) (enc : TypeId × Value → H) :
    ReturnsInHanded {} Try.checked os 4 .any (Rows.zsetReckonsSpec.pre6 enc Try.prog Try.f4 Rows.zsetReckonsRow.domain false) (Rows.zsetReckonsSpec.post enc Try.prog Try.f4 false true false false) := by
  refine returnsInHanded_of_change_sized (C := Try.checked) ownKnob_none started (by kernel_rfl) Try.func4
    (ChangeSpec.witness6 (enc := enc) (C := Try.checked) false ⟨#[], #[.slice none 0 0, .slice none 0 0, .int .i64 0], []⟩ 8 (by kernel_rfl) (by kernel_rfl) (by kernel_rfl) (by kernel_rfl)) ?_
  intro W base args ds gs before hval0 hW hcnd hsz0 _
  have hval : ∀ (j : Nat) t v, Try.f4.params[j]? = some t → args[j]? = some v → Value.okWide Try.prog W .any base t v := hval0
  have hW' := hW
  obtain ⟨p, q, hA0, hV, rfl, hfz, hnd⟩ := hW
  have hA : DataW.TrodAll enc Try.prog W 0 (fun _ => true) true Try.f4.params.toList args.toList ds p := hA0
  have hsz : (DataW.weightsEach Try.prog (Try.f4.params.toList ++ Rows.zsetReckonsSpec.plain.varTypes Try.prog) (ds ++ gs)).all (· ≤ reachBytes) = true := hsz0
  rw [Try.params4] at hA hval hsz
  obtain ⟨v0, vs0, d0, ds0, p0, q0, hargs, rfl, rfl, h0, r0r⟩ := trodAll_cons hA
  obtain ⟨v1, vs1, d1, ds1, p1, q1, rfl, rfl, rfl, h1, r1r⟩ := trodAll_cons r0r
  obtain ⟨v2, vs2, d2, ds2, p2, q2, rfl, rfl, rfl, h2, r2r⟩ := trodAll_cons r1r
  obtain ⟨rfl, rfl, rfl⟩ := trodAll_nil r2r
  obtain rfl : args = #[v0, v1, v2] := by cases args; simp_all
  obtain ⟨rfl, rfl⟩ := trodVars_none hV
  have g0 := sized_at hsz (j := 0) rfl rfl
  have g1 := sized_at hsz (j := 1) rfl rfl
  have g2 := sized_at hsz (j := 2) rfl rfl
  obtain ⟨y0_0, f0_0, f0_1⟩ := open_items (hval 0 22 v0 rfl rfl) h0
  obtain ⟨y1_0, f1_0, f1_1⟩ := open_items (hval 1 22 v1 rfl rfl) h1
  obtain ⟨a2, rfl, rfl, rfl, w2⟩ := open_int Try.underlying3 (hval 2 3 v2 rfl rfl) h2
  refine (walk v0 y0_0 v1 y1_0 a2 W f0_0 f0_1 f1_0 f1_1 (wf_i64 w2)).mono fun e W' ⟨he, hg⟩ => ⟨_, he, law_post laidOut (by kernel_rfl) rfl Try.underlying4 rfl rfl hW' hg⟩

theorem over : Rows.zsetReckonsRow.holds Try.pinned (OpenSpec.ofChange Rows.zsetReckonsSpec) :=
  OpenClaim.holds_of_wide 4 Try.f4 rfl rfl rfl rfl rfl rfl rfl ⟨rfl, rfl, rfl, rfl, rfl⟩ rfl rfl rfl rfl rfl (by kernel_rfl) Try.func4 (by kernel_rfl)
    (of_decide_eq_true (by kernel_rfl)) (by unfold Func.isWrapper; first | (rw [if_pos (by decide +kernel)]; kernel_rfl) | (rw [if_neg (by decide +kernel)]; exact ⟨rfl, rfl⟩))
    (fun os started H enc _ => lifted os started H enc)

/-- THE STATEMENT. -/
theorem proved : Rows.ZsetReckonsSaid :=
  over
#print axioms proved
end Go.Proofs.Ytgmemdhbnnhifaa.zsetReckons
