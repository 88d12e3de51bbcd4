/-
  The law ZsetGroup.
-/
import Derived.Test.YtgmemdhbnnhifaaZ1
namespace Go.Proofs.Ytgmemdhbnnhifaa.zsetGroup
open Go.ChangeShapes Go.WideShapes Go.ChangeAt Go.RowKit Go.Sort Go.BigFrame Go.Proofs.Ytgmemdhbnnhifaa
open Go.ChangeMaps (open_string shut_string)

set_option maxRecDepth 100000 in
set_option maxHeartbeats 8000000 in
theorem walk (va : Value) (a : List It) (vb : Value) (b : List It) (vc : Value) (c : List It) (w : World) (ha : IRd w va a) (fa : ∀ x ∈ a, w64 x.many = x.many) (hb : IRd w vb b) (fb : ∀ x ∈ b, w64 x.many = x.many) (hc : IRd w vc c) (fc : ∀ x ∈ c, w64 x.many = x.many) :
    Calls Try.prog 5 #[va, vb, vc] w fun e w' => e = .returned (.bool true) ∧ Below w.heap.size w w' := by
  have HB := Lib.hid (Below.refl w.heap.size w)
  obtain ⟨aoa, ca, rfl, _, _, _, _⟩ := id ha.1
  have Ha := Lib.hid ha
  have Fa := Lib.hid fa
  clear ha fa
  obtain ⟨aob, cb, rfl, _, _, _, _⟩ := id hb.1
  have Hb := Lib.hid hb
  have Fb := Lib.hid fb
  clear hb fb
  obtain ⟨aoc, cc, rfl, _, _, _, _⟩ := id hc.1
  have Hc := Lib.hid hc
  have Fc := Lib.hid fc
  clear hc fc
  cases ga : fewB a
  · have Ga := Lib.hid ga
    clear ga
    go_enter Try.func5, Try.ntmps5
    go_wp2_with fail
    refine (awake_any _).mono ?_
    rintro e w0 ⟨rfl, hb⟩
    replace HB := Lib.hid (below_then HB.out (by first | exact hb | exact below_alloc_then hb))
    clear hb
    go_wp2_with fail
    refine (few1_any _ a _ (Ha.out.later HB.out)).mono ?_
    rintro e w0' ⟨rfl, rfl⟩
    rw [Ga.out]
    go_wp2_with fail
    go_ret
    exact ⟨rfl, HB.out⟩
  · have La := Lib.hid (fewB_len ga)
    have Ga := Lib.hid ga
    clear ga
    cases gb : fewB b
    · have Gb := Lib.hid gb
      clear gb
      go_enter Try.func5, Try.ntmps5
      go_wp2_with fail
      refine (awake_any _).mono ?_
      rintro e w0 ⟨rfl, hb⟩
      replace HB := Lib.hid (below_then HB.out (by first | exact hb | exact below_alloc_then hb))
      clear hb
      go_wp2_with fail
      refine (few1_any _ a _ (Ha.out.later HB.out)).mono ?_
      rintro e w0' ⟨rfl, rfl⟩
      rw [Ga.out]
      go_wp2_with fail
      refine (few1_any _ b _ (Hb.out.later HB.out)).mono ?_
      rintro e w0' ⟨rfl, rfl⟩
      rw [Gb.out]
      go_wp2_with fail
      go_ret
      exact ⟨rfl, HB.out⟩
    · have Lb := Lib.hid (fewB_len gb)
      have Gb := Lib.hid gb
      clear gb
      cases gc : fewB c
      · have Gc := Lib.hid gc
        clear gc
        go_enter Try.func5, Try.ntmps5
        go_wp2_with fail
        refine (awake_any _).mono ?_
        rintro e w0 ⟨rfl, hb⟩
        replace HB := Lib.hid (below_then HB.out (by first | exact hb | exact below_alloc_then hb))
        clear hb
        go_wp2_with fail
        refine (few1_any _ a _ (Ha.out.later HB.out)).mono ?_
        rintro e w0' ⟨rfl, rfl⟩
        rw [Ga.out]
        go_wp2_with fail
        refine (few1_any _ b _ (Hb.out.later HB.out)).mono ?_
        rintro e w0' ⟨rfl, rfl⟩
        rw [Gb.out]
        go_wp2_with fail
        refine (few1_any _ c _ (Hc.out.later HB.out)).mono ?_
        rintro e w0' ⟨rfl, rfl⟩
        rw [Gc.out]
        go_wp2_with fail
        go_ret
        exact ⟨rfl, HB.out⟩
      · have Lc := Lib.hid (fewB_len gc)
        have Gc := Lib.hid gc
        clear gc
        go_enter Try.func5, Try.ntmps5
        go_wp2_with fail
        refine (awake_any _).mono ?_
        rintro e w0 ⟨rfl, hb⟩
        replace HB := Lib.hid (below_then HB.out (by first | exact hb | exact below_alloc_then hb))
        clear hb
        go_wp2_with fail
        refine (few1_any _ a _ (Ha.out.later HB.out)).mono ?_
        rintro e w0' ⟨rfl, rfl⟩
        rw [Ga.out]
        go_wp2_with fail
        refine (few1_any _ b _ (Hb.out.later HB.out)).mono ?_
        rintro e w0' ⟨rfl, rfl⟩
        rw [Gb.out]
        go_wp2_with fail
        refine (few1_any _ c _ (Hc.out.later HB.out)).mono ?_
        rintro e w0' ⟨rfl, rfl⟩
        rw [Gc.out]
        go_wp2_with fail
        refine (add_p (Ha.out.later HB.out) (Hb.out.later HB.out) (by have := La.out; have := Lb.out; have := Lc.out; (try simp only [List.length_append, List.length_map, List.length_cons, List.length_nil] at *); omega) Fa.out Fb.out).mono ?_
        rintro e w1 ⟨ao1, cc1, C1, rfl, i1, o1, hb⟩
        replace HB := Lib.hid (below_then HB.out (by first | exact hb | exact below_alloc_then hb))
        have I_x := Lib.hid i1
        have O_x := Lib.hid o1
        clear hb i1 o1
        go_wp2_with fail
        refine (add_p (Hb.out.later HB.out) (Ha.out.later HB.out) (by have := La.out; have := Lb.out; have := Lc.out; have := O_x.out.few; (try simp only [List.length_append, List.length_map, List.length_cons, List.length_nil] at *); omega) Fb.out Fa.out).mono ?_
        rintro e w2 ⟨ao2, cc2, C2, rfl, i2, o2, hb⟩
        replace HB := Lib.hid (below_then HB.out (by first | exact hb | exact below_alloc_then hb))
        replace I_x := Lib.hid (I_x.out.later (by first | exact hb | exact below_alloc_then hb))
        have I_y := Lib.hid i2
        have O_y := Lib.hid o2
        clear hb i2 o2
        go_wp2_with fail
        refine (refSameI_any _ _ (C1) (C2) _ I_x.out I_y.out (by have := La.out; have := Lb.out; have := Lc.out; have := O_x.out.few; have := O_y.out.few; (try simp only [List.length_append, List.length_map, List.length_cons, List.length_nil] at *); omega)).mono ?_
        rintro e w3 ⟨rfl, hb⟩
        replace HB := Lib.hid (below_then HB.out (by first | exact hb | exact below_alloc_then hb))
        replace I_x := Lib.hid (I_x.out.later (by first | exact hb | exact below_alloc_then hb))
        replace I_y := Lib.hid (I_y.out.later (by first | exact hb | exact below_alloc_then hb))
        clear hb
        rw [show sameI (C1) (C2) = true from of1_same O_x.out O_y.out fun r => by rw [cnt_add, cnt_add, Int.add_comm]]
        go_wp2_with fail
        refine (add_p I_x.out (Hc.out.later HB.out) (by have := La.out; have := Lb.out; have := Lc.out; have := O_x.out.few; have := O_y.out.few; (try simp only [List.length_append, List.length_map, List.length_cons, List.length_nil] at *); omega) O_x.out.fit Fc.out).mono ?_
        rintro e w4 ⟨ao4, cc4, C4, rfl, i4, o4, hb⟩
        replace HB := Lib.hid (below_then HB.out (by first | exact hb | exact below_alloc_then hb))
        replace I_x := Lib.hid (I_x.out.later (by first | exact hb | exact below_alloc_then hb))
        have I_u := Lib.hid i4
        have O_u := Lib.hid o4
        clear hb i4 o4
        go_wp2_with fail
        refine (add_p (Hb.out.later HB.out) (Hc.out.later HB.out) (by have := La.out; have := Lb.out; have := Lc.out; have := O_x.out.few; have := O_y.out.few; have := O_u.out.few; (try simp only [List.length_append, List.length_map, List.length_cons, List.length_nil] at *); omega) Fb.out Fc.out).mono ?_
        rintro e w5 ⟨ao5, cc5, C5, rfl, i5, o5, hb⟩
        replace HB := Lib.hid (below_then HB.out (by first | exact hb | exact below_alloc_then hb))
        replace I_x := Lib.hid (I_x.out.later (by first | exact hb | exact below_alloc_then hb))
        replace I_u := Lib.hid (I_u.out.later (by first | exact hb | exact below_alloc_then hb))
        have I_v1 := Lib.hid i5
        have O_v1 := Lib.hid o5
        clear hb i5 o5
        go_wp2_with fail
        refine (add_p (Ha.out.later HB.out) I_v1.out (by have := La.out; have := Lb.out; have := Lc.out; have := O_x.out.few; have := O_y.out.few; have := O_u.out.few; have := O_v1.out.few; (try simp only [List.length_append, List.length_map, List.length_cons, List.length_nil] at *); omega) Fa.out O_v1.out.fit).mono ?_
        rintro e w6 ⟨ao6, cc6, C6, rfl, i6, o6, hb⟩
        replace HB := Lib.hid (below_then HB.out (by first | exact hb | exact below_alloc_then hb))
        replace I_x := Lib.hid (I_x.out.later (by first | exact hb | exact below_alloc_then hb))
        replace I_u := Lib.hid (I_u.out.later (by first | exact hb | exact below_alloc_then hb))
        replace I_v1 := Lib.hid (I_v1.out.later (by first | exact hb | exact below_alloc_then hb))
        have I_v := Lib.hid i6
        have O_v := Lib.hid o6
        clear hb i6 o6
        go_wp2_with fail
        refine (refSameI_any _ _ (C4) (C6) _ I_u.out I_v.out (by have := La.out; have := Lb.out; have := Lc.out; have := O_x.out.few; have := O_y.out.few; have := O_u.out.few; have := O_v1.out.few; have := O_v.out.few; (try simp only [List.length_append, List.length_map, List.length_cons, List.length_nil] at *); omega)).mono ?_
        rintro e w7 ⟨rfl, hb⟩
        replace HB := Lib.hid (below_then HB.out (by first | exact hb | exact below_alloc_then hb))
        replace I_x := Lib.hid (I_x.out.later (by first | exact hb | exact below_alloc_then hb))
        replace I_u := Lib.hid (I_u.out.later (by first | exact hb | exact below_alloc_then hb))
        replace I_v1 := Lib.hid (I_v1.out.later (by first | exact hb | exact below_alloc_then hb))
        replace I_v := Lib.hid (I_v.out.later (by first | exact hb | exact below_alloc_then hb))
        clear hb
        rw [show sameI (C4) (C6) = true from of1_same O_u.out O_v.out fun r => by rw [cnt_add, O_x.out.cnt r, cnt_add, cnt_add, O_v1.out.cnt r, cnt_add, w64_add_left, w64_add_right, Int.add_assoc]]
        have HE : Hid (IRd w (.slice none 0 0) []) := ⟨⟨none, 0, rfl, Nat.le_refl _, Nat.zero_le _, fun _ => rfl, fun a ha => nomatch ha⟩, fun x hx => nomatch hx⟩
        go_wp2_with fail
        refine (add_p (Ha.out.later HB.out) (HE.out.later HB.out) (by have := La.out; have := Lb.out; have := Lc.out; have := O_x.out.few; have := O_y.out.few; have := O_u.out.few; have := O_v1.out.few; have := O_v.out.few; (try simp only [List.length_append, List.length_map, List.length_cons, List.length_nil] at *); omega) Fa.out (fun x hx => nomatch hx)).mono ?_
        rintro e w8 ⟨ao8, cc8, C8, rfl, i8, o8, hb⟩
        replace HB := Lib.hid (below_then HB.out (by first | exact hb | exact below_alloc_then hb))
        replace I_x := Lib.hid (I_x.out.later (by first | exact hb | exact below_alloc_then hb))
        have I_p := Lib.hid i8
        have O_p := Lib.hid o8
        clear hb i8 o8
        go_wp2_with fail
        refine (of_p (Ha.out.later HB.out) (by have := La.out; have := Lb.out; have := Lc.out; have := O_x.out.few; have := O_y.out.few; have := O_u.out.few; have := O_v1.out.few; have := O_v.out.few; have := O_p.out.few; (try simp only [List.length_append, List.length_map, List.length_cons, List.length_nil] at *); omega) Fa.out).mono ?_
        rintro e w9 ⟨ao9, cc9, C9, rfl, i9, o9, hb⟩
        replace HB := Lib.hid (below_then HB.out (by first | exact hb | exact below_alloc_then hb))
        replace I_x := Lib.hid (I_x.out.later (by first | exact hb | exact below_alloc_then hb))
        replace I_p := Lib.hid (I_p.out.later (by first | exact hb | exact below_alloc_then hb))
        have I_q := Lib.hid i9
        have O_q := Lib.hid o9
        clear hb i9 o9
        go_wp2_with fail
        refine (refSameI_any _ _ (C8) (C9) _ I_p.out I_q.out (by have := La.out; have := Lb.out; have := Lc.out; have := O_x.out.few; have := O_y.out.few; have := O_u.out.few; have := O_v1.out.few; have := O_v.out.few; have := O_p.out.few; have := O_q.out.few; (try simp only [List.length_append, List.length_map, List.length_cons, List.length_nil] at *); omega)).mono ?_
        rintro e w10 ⟨rfl, hb⟩
        replace HB := Lib.hid (below_then HB.out (by first | exact hb | exact below_alloc_then hb))
        replace I_x := Lib.hid (I_x.out.later (by first | exact hb | exact below_alloc_then hb))
        replace I_p := Lib.hid (I_p.out.later (by first | exact hb | exact below_alloc_then hb))
        replace I_q := Lib.hid (I_q.out.later (by first | exact hb | exact below_alloc_then hb))
        clear hb
        rw [show sameI (C8) (C9) = true from of1_same O_p.out O_q.out fun r => by rw [List.append_nil]]
        go_wp2_with fail
        refine (neg_p (Ha.out.later HB.out) (by have := La.out; have := Lb.out; have := Lc.out; have := O_x.out.few; have := O_y.out.few; have := O_u.out.few; have := O_v1.out.few; have := O_v.out.few; have := O_p.out.few; have := O_q.out.few; (try simp only [List.length_append, List.length_map, List.length_cons, List.length_nil] at *); omega)).mono ?_
        rintro e w11 ⟨ao11, cc11, C11, rfl, i11, o11, hb⟩
        replace HB := Lib.hid (below_then HB.out (by first | exact hb | exact below_alloc_then hb))
        replace I_x := Lib.hid (I_x.out.later (by first | exact hb | exact below_alloc_then hb))
        have I_n := Lib.hid i11
        have O_n := Lib.hid o11
        clear hb i11 o11
        go_wp2_with fail
        refine (add_p (Ha.out.later HB.out) I_n.out (by have := La.out; have := Lb.out; have := Lc.out; have := O_x.out.few; have := O_y.out.few; have := O_u.out.few; have := O_v1.out.few; have := O_v.out.few; have := O_p.out.few; have := O_q.out.few; have := O_n.out.few; (try simp only [List.length_append, List.length_map, List.length_cons, List.length_nil] at *); omega) Fa.out O_n.out.fit).mono ?_
        rintro e w12 ⟨ao12, cc12, C12, rfl, i12, o12, hb⟩
        replace HB := Lib.hid (below_then HB.out (by first | exact hb | exact below_alloc_then hb))
        replace I_x := Lib.hid (I_x.out.later (by first | exact hb | exact below_alloc_then hb))
        replace I_n := Lib.hid (I_n.out.later (by first | exact hb | exact below_alloc_then hb))
        have I_z := Lib.hid i12
        have O_z := Lib.hid o12
        clear hb i12 o12
        have hz : C12 = [] := of1_none O_z.out fun r => by rw [cnt_add, O_n.out.cnt r, cnt_scale, w64_neg]
        rw [hz]
        rw [hz] at I_z O_z
        clear hz
        go_wp2_with fail
        refine (rightI_any _ (C1) _ I_x.out (by have := La.out; have := Lb.out; have := Lc.out; have := O_x.out.few; have := O_y.out.few; have := O_u.out.few; have := O_v1.out.few; have := O_v.out.few; have := O_p.out.few; have := O_q.out.few; have := O_n.out.few; have := O_z.out.few; (try simp only [List.length_append, List.length_map, List.length_cons, List.length_nil] at *); omega)).mono ?_
        rintro e w13 ⟨b13, rfl, hr13, hb⟩
        replace HB := Lib.hid (below_then HB.out (by first | exact hb | exact below_alloc_then hb))
        replace I_x := Lib.hid (I_x.out.later (by first | exact hb | exact below_alloc_then hb))
        clear hb
        obtain rfl : b13 = true := hr13.2 (nrm_right O_x.out.nrm O_x.out.nby)
        clear hr13
        go_wp2_with fail
        refine (of_p I_x.out (by have := La.out; have := Lb.out; have := Lc.out; have := O_x.out.few; have := O_y.out.few; have := O_u.out.few; have := O_v1.out.few; have := O_v.out.few; have := O_p.out.few; have := O_q.out.few; have := O_n.out.few; have := O_z.out.few; (try simp only [List.length_append, List.length_map, List.length_cons, List.length_nil] at *); omega) O_x.out.fit).mono ?_
        rintro e w14 ⟨ao14, cc14, C14, rfl, i14, o14, hb⟩
        replace HB := Lib.hid (below_then HB.out (by first | exact hb | exact below_alloc_then hb))
        replace I_x := Lib.hid (I_x.out.later (by first | exact hb | exact below_alloc_then hb))
        have I_t := Lib.hid i14
        have O_t := Lib.hid o14
        clear hb i14 o14
        go_wp2_with fail
        refine (refSameI_any _ _ (C14) (C1) _ I_t.out I_x.out (by have := La.out; have := Lb.out; have := Lc.out; have := O_x.out.few; have := O_y.out.few; have := O_u.out.few; have := O_v1.out.few; have := O_v.out.few; have := O_p.out.few; have := O_q.out.few; have := O_n.out.few; have := O_z.out.few; have := O_t.out.few; (try simp only [List.length_append, List.length_map, List.length_cons, List.length_nil] at *); omega)).mono ?_
        rintro e w15 ⟨rfl, hb⟩
        replace HB := Lib.hid (below_then HB.out (by first | exact hb | exact below_alloc_then hb))
        replace I_x := Lib.hid (I_x.out.later (by first | exact hb | exact below_alloc_then hb))
        replace I_t := Lib.hid (I_t.out.later (by first | exact hb | exact below_alloc_then hb))
        clear hb
        rw [show sameI (C14) (C1) = true from decide_eq_true (nrm_unique O_t.out.nrm O_x.out.nrm fun r => O_t.out.cnt r)]
        go_wp2_with fail
        go_ret
        exact ⟨rfl, HB.out⟩

set_option maxRecDepth 100000 in
theorem lifted (os : Os) (started : os.Started) (H : Type) (enc : TypeId × Value → H) :
    ReturnsInHanded {} Try.checked os 5 .any (Rows.zsetGroupSpec.pre6 enc Try.prog Try.f5 Rows.zsetGroupRow.domain false) (Rows.zsetGroupSpec.post enc Try.prog Try.f5 false true false false) := by
  refine returnsInHanded_of_change_sized (C := Try.checked) ownKnob_none started (by kernel_rfl) Try.func5
    (ChangeSpec.witness6 (enc := enc) (C := Try.checked) false ⟨#[], #[.slice none 0 0, .slice none 0 0, .slice none 0 0], []⟩ 8 (by kernel_rfl) (by kernel_rfl) (by kernel_rfl) (by kernel_rfl)) ?_
  intro W base args ds gs before hval0 hW hcnd hsz0 _
  have hval : ∀ (j : Nat) t v, Try.f5.params[j]? = some t → args[j]? = some v → Value.okWide Try.prog W .any base t v := hval0
  have hW' := hW
  obtain ⟨p, q, hA0, hV, rfl, hfz, hnd⟩ := hW
  have hA : DataW.TrodAll enc Try.prog W 0 (fun _ => true) true Try.f5.params.toList args.toList ds p := hA0
  have hsz : (DataW.weightsEach Try.prog (Try.f5.params.toList ++ Rows.zsetGroupSpec.plain.varTypes Try.prog) (ds ++ gs)).all (· ≤ reachBytes) = true := hsz0
  rw [Try.params5] at hA hval hsz
  obtain ⟨v0, vs0, d0, ds0, p0, q0, hargs, rfl, rfl, h0, r0r⟩ := trodAll_cons hA
  obtain ⟨v1, vs1, d1, ds1, p1, q1, rfl, rfl, rfl, h1, r1r⟩ := trodAll_cons r0r
  obtain ⟨v2, vs2, d2, ds2, p2, q2, rfl, rfl, rfl, h2, r2r⟩ := trodAll_cons r1r
  obtain ⟨rfl, rfl, rfl⟩ := trodAll_nil r2r
  obtain rfl : args = #[v0, v1, v2] := by cases args; simp_all
  obtain ⟨rfl, rfl⟩ := trodVars_none hV
  have g0 := sized_at hsz (j := 0) rfl rfl
  have g1 := sized_at hsz (j := 1) rfl rfl
  have g2 := sized_at hsz (j := 2) rfl rfl
  obtain ⟨y0_0, f0_0, f0_1⟩ := open_items (hval 0 22 v0 rfl rfl) h0
  obtain ⟨y1_0, f1_0, f1_1⟩ := open_items (hval 1 22 v1 rfl rfl) h1
  obtain ⟨y2_0, f2_0, f2_1⟩ := open_items (hval 2 22 v2 rfl rfl) h2
  refine (walk v0 y0_0 v1 y1_0 v2 y2_0 W f0_0 f0_1 f1_0 f1_1 f2_0 f2_1).mono fun e W' ⟨he, hg⟩ => ⟨_, he, law_post laidOut (by kernel_rfl) rfl Try.underlying4 rfl rfl hW' hg⟩

theorem over : Rows.zsetGroupRow.holds Try.pinned (OpenSpec.ofChange Rows.zsetGroupSpec) :=
  OpenClaim.holds_of_wide 5 Try.f5 rfl rfl rfl rfl rfl rfl rfl ⟨rfl, rfl, rfl, rfl, rfl⟩ rfl rfl rfl rfl rfl (by kernel_rfl) Try.func5 (by kernel_rfl)
    (of_decide_eq_true (by kernel_rfl)) (by unfold Func.isWrapper; first | (rw [if_pos (by decide +kernel)]; kernel_rfl) | (rw [if_neg (by decide +kernel)]; exact ⟨rfl, rfl⟩))
    (fun os started H enc _ => lifted os started H enc)

/-- THE STATEMENT. -/
theorem proved : Rows.ZsetGroupSaid :=
  over
#print axioms proved
end Go.Proofs.Ytgmemdhbnnhifaa.zsetGroup
