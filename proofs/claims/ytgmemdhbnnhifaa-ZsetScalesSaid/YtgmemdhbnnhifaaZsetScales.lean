/-
  The law ZsetScales.
-/
import Derived.Test.YtgmemdhbnnhifaaZ1
namespace Go.Proofs.Ytgmemdhbnnhifaa.zsetScales
open Go.ChangeShapes Go.WideShapes Go.ChangeAt Go.RowKit Go.Sort Go.BigFrame Go.Proofs.Ytgmemdhbnnhifaa
open Go.ChangeMaps (open_string shut_string)

set_option maxRecDepth 100000 in
set_option maxHeartbeats 8000000 in
theorem walk (va : Value) (a : List It) (vb : Value) (b : List It) (j : Int) (k : Int) (w : World) (ha : IRd w va a) (fa : ∀ x ∈ a, w64 x.many = x.many) (hb : IRd w vb b) (fb : ∀ x ∈ b, w64 x.many = x.many) (hj : -9223372036854775808 ≤ j ∧ j ≤ 9223372036854775807) (hk : -9223372036854775808 ≤ k ∧ k ≤ 9223372036854775807) :
    Calls Try.prog 7 #[va, vb, .int .i64 j, .int .i64 k] w fun e w' => e = .returned (.bool true) ∧ Below w.heap.size w w' := by
  have HB := Lib.hid (Below.refl w.heap.size w)
  obtain ⟨aoa, ca, rfl, _, _, _, _⟩ := id ha.1
  have Ha := Lib.hid ha
  have Fa := Lib.hid fa
  clear ha fa
  obtain ⟨aob, cb, rfl, _, _, _, _⟩ := id hb.1
  have Hb := Lib.hid hb
  have Fb := Lib.hid fb
  clear hb fb
  have Hj := Lib.hid hj
  clear hj
  have Hk := Lib.hid hk
  clear hk
  cases ga : fewB a
  · have Ga := Lib.hid ga
    clear ga
    go_enter Try.func7, Try.ntmps7
    go_wp2_with fail
    refine (awake_any _).mono ?_
    rintro e w0 ⟨rfl, hb⟩
    replace HB := Lib.hid (below_then HB.out (by first | exact hb | exact below_alloc_then hb))
    clear hb
    go_wp2_with fail
    refine (few1_any _ a _ (Ha.out.later HB.out)).mono ?_
    rintro e w0' ⟨rfl, rfl⟩
    rw [Ga.out]
    go_wp2_with fail
    go_ret
    exact ⟨rfl, HB.out⟩
  · have La := Lib.hid (fewB_len ga)
    have Ga := Lib.hid ga
    clear ga
    cases gb : fewB b
    · have Gb := Lib.hid gb
      clear gb
      go_enter Try.func7, Try.ntmps7
      go_wp2_with fail
      refine (awake_any _).mono ?_
      rintro e w0 ⟨rfl, hb⟩
      replace HB := Lib.hid (below_then HB.out (by first | exact hb | exact below_alloc_then hb))
      clear hb
      go_wp2_with fail
      refine (few1_any _ a _ (Ha.out.later HB.out)).mono ?_
      rintro e w0' ⟨rfl, rfl⟩
      rw [Ga.out]
      go_wp2_with fail
      refine (few1_any _ b _ (Hb.out.later HB.out)).mono ?_
      rintro e w0' ⟨rfl, rfl⟩
      rw [Gb.out]
      go_wp2_with fail
      go_ret
      exact ⟨rfl, HB.out⟩
    · have Lb := Lib.hid (fewB_len gb)
      have Gb := Lib.hid gb
      clear gb
      go_enter Try.func7, Try.ntmps7
      go_wp2_with fail
      refine (awake_any _).mono ?_
      rintro e w0 ⟨rfl, hb⟩
      replace HB := Lib.hid (below_then HB.out (by first | exact hb | exact below_alloc_then hb))
      clear hb
      go_wp2_with fail
      refine (few1_any _ a _ (Ha.out.later HB.out)).mono ?_
      rintro e w0' ⟨rfl, rfl⟩
      rw [Ga.out]
      go_wp2_with fail
      refine (few1_any _ b _ (Hb.out.later HB.out)).mono ?_
      rintro e w0' ⟨rfl, rfl⟩
      rw [Gb.out]
      go_wp2_with fail
      refine (scale_p (j) (Ha.out.later HB.out) (by have := La.out; have := Lb.out; (try simp only [List.length_append, List.length_map, List.length_cons, List.length_nil] at *); omega)).mono ?_
      rintro e w1 ⟨ao1, cc1, C1, rfl, i1, o1, hb⟩
      replace HB := Lib.hid (below_then HB.out (by first | exact hb | exact below_alloc_then hb))
      have I_s1 := Lib.hid i1
      have O_s1 := Lib.hid o1
      clear hb i1 o1
      go_wp2_with fail
      refine (scale_p (k) I_s1.out (by have := La.out; have := Lb.out; have := O_s1.out.few; (try simp only [List.length_append, List.length_map, List.length_cons, List.length_nil] at *); omega)).mono ?_
      rintro e w2 ⟨ao2, cc2, C2, rfl, i2, o2, hb⟩
      replace HB := Lib.hid (below_then HB.out (by first | exact hb | exact below_alloc_then hb))
      replace I_s1 := Lib.hid (I_s1.out.later (by first | exact hb | exact below_alloc_then hb))
      have I_s2 := Lib.hid i2
      have O_s2 := Lib.hid o2
      clear hb i2 o2
      go_wp2_with fail
      refine (scale_p (wrap64 (j * k)) (Ha.out.later HB.out) (by have := La.out; have := Lb.out; have := O_s1.out.few; have := O_s2.out.few; (try simp only [List.length_append, List.length_map, List.length_cons, List.length_nil] at *); omega)).mono ?_
      rintro e w3 ⟨ao3, cc3, C3, rfl, i3, o3, hb⟩
      replace HB := Lib.hid (below_then HB.out (by first | exact hb | exact below_alloc_then hb))
      replace I_s1 := Lib.hid (I_s1.out.later (by first | exact hb | exact below_alloc_then hb))
      replace I_s2 := Lib.hid (I_s2.out.later (by first | exact hb | exact below_alloc_then hb))
      have I_s3 := Lib.hid i3
      have O_s3 := Lib.hid o3
      clear hb i3 o3
      go_wp2_with fail
      refine (refSameI_any _ _ (C2) (C3) _ I_s2.out I_s3.out (by have := La.out; have := Lb.out; have := O_s1.out.few; have := O_s2.out.few; have := O_s3.out.few; (try simp only [List.length_append, List.length_map, List.length_cons, List.length_nil] at *); omega)).mono ?_
      rintro e w4 ⟨rfl, hb⟩
      replace HB := Lib.hid (below_then HB.out (by first | exact hb | exact below_alloc_then hb))
      replace I_s1 := Lib.hid (I_s1.out.later (by first | exact hb | exact below_alloc_then hb))
      replace I_s2 := Lib.hid (I_s2.out.later (by first | exact hb | exact below_alloc_then hb))
      replace I_s3 := Lib.hid (I_s3.out.later (by first | exact hb | exact below_alloc_then hb))
      clear hb
      rw [show sameI (C2) (C3) = true from of1_same O_s2.out O_s3.out fun r => by rw [cnt_scale, O_s1.out.cnt r, cnt_scale, cnt_scale, w64_mul_left, ← w64_wrap, w64_mul_right, Int.mul_assoc]]
      go_wp2_with fail
      refine (add_p (Ha.out.later HB.out) (Hb.out.later HB.out) (by have := La.out; have := Lb.out; have := O_s1.out.few; have := O_s2.out.few; have := O_s3.out.few; (try simp only [List.length_append, List.length_map, List.length_cons, List.length_nil] at *); omega) Fa.out Fb.out).mono ?_
      rintro e w5 ⟨ao5, cc5, C5, rfl, i5, o5, hb⟩
      replace HB := Lib.hid (below_then HB.out (by first | exact hb | exact below_alloc_then hb))
      have I_x := Lib.hid i5
      have O_x := Lib.hid o5
      clear hb i5 o5
      go_wp2_with fail
      refine (scale_p (k) I_x.out (by have := La.out; have := Lb.out; have := O_s1.out.few; have := O_s2.out.few; have := O_s3.out.few; have := O_x.out.few; (try simp only [List.length_append, List.length_map, List.length_cons, List.length_nil] at *); omega)).mono ?_
      rintro e w6 ⟨ao6, cc6, C6, rfl, i6, o6, hb⟩
      replace HB := Lib.hid (below_then HB.out (by first | exact hb | exact below_alloc_then hb))
      replace I_x := Lib.hid (I_x.out.later (by first | exact hb | exact below_alloc_then hb))
      have I_y := Lib.hid i6
      have O_y := Lib.hid o6
      clear hb i6 o6
      go_wp2_with fail
      refine (scale_p (k) (Ha.out.later HB.out) (by have := La.out; have := Lb.out; have := O_s1.out.few; have := O_s2.out.few; have := O_s3.out.few; have := O_x.out.few; have := O_y.out.few; (try simp only [List.length_append, List.length_map, List.length_cons, List.length_nil] at *); omega)).mono ?_
      rintro e w7 ⟨ao7, cc7, C7, rfl, i7, o7, hb⟩
      replace HB := Lib.hid (below_then HB.out (by first | exact hb | exact below_alloc_then hb))
      replace I_x := Lib.hid (I_x.out.later (by first | exact hb | exact below_alloc_then hb))
      replace I_y := Lib.hid (I_y.out.later (by first | exact hb | exact below_alloc_then hb))
      have I_u := Lib.hid i7
      have O_u := Lib.hid o7
      clear hb i7 o7
      go_wp2_with fail
      refine (scale_p (k) (Hb.out.later HB.out) (by have := La.out; have := Lb.out; have := O_s1.out.few; have := O_s2.out.few; have := O_s3.out.few; have := O_x.out.few; have := O_y.out.few; have := O_u.out.few; (try simp only [List.length_append, List.length_map, List.length_cons, List.length_nil] at *); omega)).mono ?_
      rintro e w8 ⟨ao8, cc8, C8, rfl, i8, o8, hb⟩
      replace HB := Lib.hid (below_then HB.out (by first | exact hb | exact below_alloc_then hb))
      replace I_x := Lib.hid (I_x.out.later (by first | exact hb | exact below_alloc_then hb))
      replace I_y := Lib.hid (I_y.out.later (by first | exact hb | exact below_alloc_then hb))
      replace I_u := Lib.hid (I_u.out.later (by first | exact hb | exact below_alloc_then hb))
      have I_v := Lib.hid i8
      have O_v := Lib.hid o8
      clear hb i8 o8
      go_wp2_with fail
      refine (add_p I_u.out I_v.out (by have := La.out; have := Lb.out; have := O_s1.out.few; have := O_s2.out.few; have := O_s3.out.few; have := O_x.out.few; have := O_y.out.few; have := O_u.out.few; have := O_v.out.few; (try simp only [List.length_append, List.length_map, List.length_cons, List.length_nil] at *); omega) O_u.out.fit O_v.out.fit).mono ?_
      rintro e w9 ⟨ao9, cc9, C9, rfl, i9, o9, hb⟩
      replace HB := Lib.hid (below_then HB.out (by first | exact hb | exact below_alloc_then hb))
      replace I_x := Lib.hid (I_x.out.later (by first | exact hb | exact below_alloc_then hb))
      replace I_y := Lib.hid (I_y.out.later (by first | exact hb | exact below_alloc_then hb))
      replace I_u := Lib.hid (I_u.out.later (by first | exact hb | exact below_alloc_then hb))
      replace I_v := Lib.hid (I_v.out.later (by first | exact hb | exact below_alloc_then hb))
      have I_z := Lib.hid i9
      have O_z := Lib.hid o9
      clear hb i9 o9
      go_wp2_with fail
      refine (refSameI_any _ _ (C6) (C9) _ I_y.out I_z.out (by have := La.out; have := Lb.out; have := O_s1.out.few; have := O_s2.out.few; have := O_s3.out.few; have := O_x.out.few; have := O_y.out.few; have := O_u.out.few; have := O_v.out.few; have := O_z.out.few; (try simp only [List.length_append, List.length_map, List.length_cons, List.length_nil] at *); omega)).mono ?_
      rintro e w10 ⟨rfl, hb⟩
      replace HB := Lib.hid (below_then HB.out (by first | exact hb | exact below_alloc_then hb))
      replace I_x := Lib.hid (I_x.out.later (by first | exact hb | exact below_alloc_then hb))
      replace I_y := Lib.hid (I_y.out.later (by first | exact hb | exact below_alloc_then hb))
      replace I_u := Lib.hid (I_u.out.later (by first | exact hb | exact below_alloc_then hb))
      replace I_v := Lib.hid (I_v.out.later (by first | exact hb | exact below_alloc_then hb))
      replace I_z := Lib.hid (I_z.out.later (by first | exact hb | exact below_alloc_then hb))
      clear hb
      rw [show sameI (C6) (C9) = true from of1_same O_y.out O_z.out fun r => by rw [cnt_scale, O_x.out.cnt r, cnt_add, cnt_add, O_u.out.cnt r, O_v.out.cnt r, cnt_scale, cnt_scale, w64_mul_left, w64_add_left, w64_add_right, Int.add_mul]]
      go_wp2_with fail
      refine (scale_p (j) (Ha.out.later HB.out) (by have := La.out; have := Lb.out; have := O_s1.out.few; have := O_s2.out.few; have := O_s3.out.few; have := O_x.out.few; have := O_y.out.few; have := O_u.out.few; have := O_v.out.few; have := O_z.out.few; (try simp only [List.length_append, List.length_map, List.length_cons, List.length_nil] at *); omega)).mono ?_
      rintro e w11 ⟨ao11, cc11, C11, rfl, i11, o11, hb⟩
      replace HB := Lib.hid (below_then HB.out (by first | exact hb | exact below_alloc_then hb))
      have I_u2 := Lib.hid i11
      have O_u2 := Lib.hid o11
      clear hb i11 o11
      go_wp2_with fail
      refine (scale_p (k) (Ha.out.later HB.out) (by have := La.out; have := Lb.out; have := O_s1.out.few; have := O_s2.out.few; have := O_s3.out.few; have := O_x.out.few; have := O_y.out.few; have := O_u.out.few; have := O_v.out.few; have := O_z.out.few; have := O_u2.out.few; (try simp only [List.length_append, List.length_map, List.length_cons, List.length_nil] at *); omega)).mono ?_
      rintro e w12 ⟨ao12, cc12, C12, rfl, i12, o12, hb⟩
      replace HB := Lib.hid (below_then HB.out (by first | exact hb | exact below_alloc_then hb))
      replace I_u2 := Lib.hid (I_u2.out.later (by first | exact hb | exact below_alloc_then hb))
      have I_v2 := Lib.hid i12
      have O_v2 := Lib.hid o12
      clear hb i12 o12
      go_wp2_with fail
      refine (add_p I_u2.out I_v2.out (by have := La.out; have := Lb.out; have := O_s1.out.few; have := O_s2.out.few; have := O_s3.out.few; have := O_x.out.few; have := O_y.out.few; have := O_u.out.few; have := O_v.out.few; have := O_z.out.few; have := O_u2.out.few; have := O_v2.out.few; (try simp only [List.length_append, List.length_map, List.length_cons, List.length_nil] at *); omega) O_u2.out.fit O_v2.out.fit).mono ?_
      rintro e w13 ⟨ao13, cc13, C13, rfl, i13, o13, hb⟩
      replace HB := Lib.hid (below_then HB.out (by first | exact hb | exact below_alloc_then hb))
      replace I_u2 := Lib.hid (I_u2.out.later (by first | exact hb | exact below_alloc_then hb))
      replace I_v2 := Lib.hid (I_v2.out.later (by first | exact hb | exact below_alloc_then hb))
      have I_z2 := Lib.hid i13
      have O_z2 := Lib.hid o13
      clear hb i13 o13
      go_wp2_with fail
      refine (scale_p (wrap64 (j + k)) (Ha.out.later HB.out) (by have := La.out; have := Lb.out; have := O_s1.out.few; have := O_s2.out.few; have := O_s3.out.few; have := O_x.out.few; have := O_y.out.few; have := O_u.out.few; have := O_v.out.few; have := O_z.out.few; have := O_u2.out.few; have := O_v2.out.few; have := O_z2.out.few; (try simp only [List.length_append, List.length_map, List.length_cons, List.length_nil] at *); omega)).mono ?_
      rintro e w14 ⟨ao14, cc14, C14, rfl, i14, o14, hb⟩
      replace HB := Lib.hid (below_then HB.out (by first | exact hb | exact below_alloc_then hb))
      replace I_u2 := Lib.hid (I_u2.out.later (by first | exact hb | exact below_alloc_then hb))
      replace I_v2 := Lib.hid (I_v2.out.later (by first | exact hb | exact below_alloc_then hb))
      replace I_z2 := Lib.hid (I_z2.out.later (by first | exact hb | exact below_alloc_then hb))
      have I_s := Lib.hid i14
      have O_s := Lib.hid o14
      clear hb i14 o14
      go_wp2_with fail
      refine (refSameI_any _ _ (C13) (C14) _ I_z2.out I_s.out (by have := La.out; have := Lb.out; have := O_s1.out.few; have := O_s2.out.few; have := O_s3.out.few; have := O_x.out.few; have := O_y.out.few; have := O_u.out.few; have := O_v.out.few; have := O_z.out.few; have := O_u2.out.few; have := O_v2.out.few; have := O_z2.out.few; have := O_s.out.few; (try simp only [List.length_append, List.length_map, List.length_cons, List.length_nil] at *); omega)).mono ?_
      rintro e w15 ⟨rfl, hb⟩
      replace HB := Lib.hid (below_then HB.out (by first | exact hb | exact below_alloc_then hb))
      replace I_u2 := Lib.hid (I_u2.out.later (by first | exact hb | exact below_alloc_then hb))
      replace I_v2 := Lib.hid (I_v2.out.later (by first | exact hb | exact below_alloc_then hb))
      replace I_z2 := Lib.hid (I_z2.out.later (by first | exact hb | exact below_alloc_then hb))
      replace I_s := Lib.hid (I_s.out.later (by first | exact hb | exact below_alloc_then hb))
      clear hb
      rw [show sameI (C13) (C14) = true from of1_same O_z2.out O_s.out fun r => by rw [cnt_add, O_u2.out.cnt r, O_v2.out.cnt r, cnt_scale, cnt_scale, cnt_scale, w64_add_left, w64_add_right, ← w64_wrap, w64_mul_right, Int.mul_add]]
      go_wp2_with fail
      refine (scale_p (0) (Ha.out.later HB.out) (by have := La.out; have := Lb.out; have := O_s1.out.few; have := O_s2.out.few; have := O_s3.out.few; have := O_x.out.few; have := O_y.out.few; have := O_u.out.few; have := O_v.out.few; have := O_z.out.few; have := O_u2.out.few; have := O_v2.out.few; have := O_z2.out.few; have := O_s.out.few; (try simp only [List.length_append, List.length_map, List.length_cons, List.length_nil] at *); omega)).mono ?_
      rintro e w16 ⟨ao16, cc16, C16, rfl, i16, o16, hb⟩
      replace HB := Lib.hid (below_then HB.out (by first | exact hb | exact below_alloc_then hb))
      have I_e := Lib.hid i16
      have O_e := Lib.hid o16
      clear hb i16 o16
      have hz : C16 = [] := of1_none O_e.out fun r => by rw [cnt_scale, Int.mul_zero, w64_zero]
      rw [hz]
      rw [hz] at I_e O_e
      clear hz
      go_wp2_with fail
      go_ret
      exact ⟨rfl, HB.out⟩

set_option maxRecDepth 100000 in
theorem lifted (os : Os) (started : os.Started) (H : Type) (enc : TypeId × Value → H) :
    ReturnsInHanded {} Try.checked os 7 .any (Rows.zsetScalesSpec.pre6 enc Try.prog Try.f7 Rows.zsetScalesRow.domain false) (Rows.zsetScalesSpec.post enc Try.prog Try.f7 false true false false) := by
  refine returnsInHanded_of_change_sized (C := Try.checked) ownKnob_none started (by kernel_rfl) Try.func7
    (ChangeSpec.witness6 (enc := enc) (C := Try.checked) false ⟨#[], #[.slice none 0 0, .slice none 0 0, .int .i64 0, .int .i64 0], []⟩ 8 (by kernel_rfl) (by kernel_rfl) (by kernel_rfl) (by kernel_rfl)) ?_
  intro W base args ds gs before hval0 hW hcnd hsz0 _
  have hval : ∀ (j : Nat) t v, Try.f7.params[j]? = some t → args[j]? = some v → Value.okWide Try.prog W .any base t v := hval0
  have hW' := hW
  obtain ⟨p, q, hA0, hV, rfl, hfz, hnd⟩ := hW
  have hA : DataW.TrodAll enc Try.prog W 0 (fun _ => true) true Try.f7.params.toList args.toList ds p := hA0
  have hsz : (DataW.weightsEach Try.prog (Try.f7.params.toList ++ Rows.zsetScalesSpec.plain.varTypes Try.prog) (ds ++ gs)).all (· ≤ reachBytes) = true := hsz0
  rw [Try.params7] at hA hval hsz
  obtain ⟨v0, vs0, d0, ds0, p0, q0, hargs, rfl, rfl, h0, r0r⟩ := trodAll_cons hA
  obtain ⟨v1, vs1, d1, ds1, p1, q1, rfl, rfl, rfl, h1, r1r⟩ := trodAll_cons r0r
  obtain ⟨v2, vs2, d2, ds2, p2, q2, rfl, rfl, rfl, h2, r2r⟩ := trodAll_cons r1r
  obtain ⟨v3, vs3, d3, ds3, p3, q3, rfl, rfl, rfl, h3, r3r⟩ := trodAll_cons r2r
  obtain ⟨rfl, rfl, rfl⟩ := trodAll_nil r3r
  obtain rfl : args = #[v0, v1, v2, v3] := by cases args; simp_all
  obtain ⟨rfl, rfl⟩ := trodVars_none hV
  have g0 := sized_at hsz (j := 0) rfl rfl
  have g1 := sized_at hsz (j := 1) rfl rfl
  have g2 := sized_at hsz (j := 2) rfl rfl
  have g3 := sized_at hsz (j := 3) rfl rfl
  obtain ⟨y0_0, f0_0, f0_1⟩ := open_items (hval 0 22 v0 rfl rfl) h0
  obtain ⟨y1_0, f1_0, f1_1⟩ := open_items (hval 1 22 v1 rfl rfl) h1
  obtain ⟨a2, rfl, rfl, rfl, w2⟩ := open_int Try.underlying3 (hval 2 3 v2 rfl rfl) h2
  obtain ⟨a3, rfl, rfl, rfl, w3⟩ := open_int Try.underlying3 (hval 3 3 v3 rfl rfl) h3
  refine (walk v0 y0_0 v1 y1_0 a2 a3 W f0_0 f0_1 f1_0 f1_1 (wf_i64 w2) (wf_i64 w3)).mono fun e W' ⟨he, hg⟩ => ⟨_, he, law_post laidOut (by kernel_rfl) rfl Try.underlying4 rfl rfl hW' hg⟩

theorem over : Rows.zsetScalesRow.holds Try.pinned (OpenSpec.ofChange Rows.zsetScalesSpec) :=
  OpenClaim.holds_of_wide 7 Try.f7 rfl rfl rfl rfl rfl rfl rfl ⟨rfl, rfl, rfl, rfl, rfl⟩ rfl rfl rfl rfl rfl (by kernel_rfl) Try.func7 (by kernel_rfl)
    (of_decide_eq_true (by kernel_rfl)) (by unfold Func.isWrapper; first | (rw [if_pos (by decide +kernel)]; kernel_rfl) | (rw [if_neg (by decide +kernel)]; exact ⟨rfl, rfl⟩))
    (fun os started H enc _ => lifted os started H enc)

/-- THE STATEMENT. -/
theorem proved : Rows.ZsetScalesSaid :=
  over
#print axioms proved
end Go.Proofs.Ytgmemdhbnnhifaa.zsetScales
