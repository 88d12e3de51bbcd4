/-
  The law ZsetTells.
-/
import Derived.Test.YtgmemdhbnnhifaaZ1
namespace Go.Proofs.Ytgmemdhbnnhifaa.zsetTells
open Go.ChangeShapes Go.WideShapes Go.ChangeAt Go.RowKit Go.Sort Go.BigFrame Go.Proofs.Ytgmemdhbnnhifaa
open Go.ChangeMaps (open_string shut_string)

set_option maxRecDepth 100000 in
set_option maxHeartbeats 8000000 in
theorem walk (vl : Value) (l : List It) (vr : Value) (r : List Val) (w : World) (hl : IRd w vl l) (fl : ∀ x ∈ l, w64 x.many = x.many) (hr : Rd w vr r.length (rowCs r)) :
    Calls Try.prog 3 #[vl, vr] w fun e w' => e = .returned (.bool true) ∧ Below w.heap.size w w' := by
  have HB := Lib.hid (Below.refl w.heap.size w)
  obtain ⟨aol, cl, rfl, _, _, _, _⟩ := id hl.1
  have Hl := Lib.hid hl
  have Fl := Lib.hid fl
  clear hl fl
  obtain ⟨aor, cr, rfl, _, _, _, _⟩ := id hr
  have Hr := Lib.hid hr
  clear hr
  cases gl : fewB l
  · have Gl := Lib.hid gl
    clear gl
    go_enter Try.func3, Try.ntmps3
    go_wp2_with fail
    refine (awake_any _).mono ?_
    rintro e w0 ⟨rfl, hb⟩
    replace HB := Lib.hid (below_then HB.out (by first | exact hb | exact below_alloc_then hb))
    clear hb
    go_wp2_with fail
    refine (few1_any _ l _ (Hl.out.later HB.out)).mono ?_
    rintro e w0' ⟨rfl, rfl⟩
    rw [Gl.out]
    go_wp2_with fail
    go_ret
    exact ⟨rfl, HB.out⟩
  · have Ll := Lib.hid (fewB_len gl)
    have Gl := Lib.hid gl
    clear gl
    by_cases gr : 20 < r.length
    · have hEr : decide ((20 : Int) < (r.length : Int)) = true := by simp; omega
      go_enter Try.func3, Try.ntmps3
      go_wp2_with fail
      refine (awake_any _).mono ?_
      rintro e w0 ⟨rfl, hb⟩
      replace HB := Lib.hid (below_then HB.out (by first | exact hb | exact below_alloc_then hb))
      clear hb
      go_wp2_with fail
      refine (few1_any _ l _ (Hl.out.later HB.out)).mono ?_
      rintro e w0' ⟨rfl, rfl⟩
      rw [Gl.out]
      go_wp2_with fail
      go_ret
      exact ⟨rfl, HB.out⟩
    · have hEr : decide ((20 : Int) < (r.length : Int)) = false := by simp; omega
      go_enter Try.func3, Try.ntmps3
      go_wp2_with fail
      refine (awake_any _).mono ?_
      rintro e w0 ⟨rfl, hb⟩
      replace HB := Lib.hid (below_then HB.out (by first | exact hb | exact below_alloc_then hb))
      clear hb
      go_wp2_with fail
      refine (few1_any _ l _ (Hl.out.later HB.out)).mono ?_
      rintro e w0' ⟨rfl, rfl⟩
      rw [Gl.out]
      go_wp2_with fail
      refine (rightI_any _ (l) _ (Hl.out.later HB.out) (by have := Ll.out; (try simp only [List.length_append, List.length_map, List.length_cons, List.length_nil] at *); omega)).mono ?_
      rintro e w1 ⟨b1, rfl, hr1, hb⟩
      replace HB := Lib.hid (below_then HB.out (by first | exact hb | exact below_alloc_then hb))
      clear hb
      go_wp2_with fail
      refine (refRightI_any _ (l) _ (Hl.out.later HB.out) (by have := Ll.out; (try simp only [List.length_append, List.length_map, List.length_cons, List.length_nil] at *); omega)).mono ?_
      rintro e w2 ⟨b2, rfl, hr2, hb⟩
      replace HB := Lib.hid (below_then HB.out (by first | exact hb | exact below_alloc_then hb))
      clear hb
      obtain rfl : b2 = b1 := Bool.eq_iff_iff.2 (hr2.trans hr1.symm)
      clear hr1 hr2
      go_wp2_with fail
      refine (many_any _ _ (l) (r) _ (Hl.out.later HB.out) (Hr.out.later HB.out) (by have := Ll.out; (try simp only [List.length_append, List.length_map, List.length_cons, List.length_nil] at *); omega)).mono ?_
      rintro e w3 ⟨rfl, hb⟩
      replace HB := Lib.hid (below_then HB.out (by first | exact hb | exact below_alloc_then hb))
      clear hb
      go_wp2_with fail
      refine (refMany_any _ _ (l) (r) _ (Hl.out.later HB.out) (Hr.out.later HB.out) (by have := Ll.out; (try simp only [List.length_append, List.length_map, List.length_cons, List.length_nil] at *); omega)).mono ?_
      rintro e w4 ⟨rfl, hb⟩
      replace HB := Lib.hid (below_then HB.out (by first | exact hb | exact below_alloc_then hb))
      clear hb
      go_wp2_with fail
      refine (of_p (Hl.out.later HB.out) (by have := Ll.out; (try simp only [List.length_append, List.length_map, List.length_cons, List.length_nil] at *); omega) Fl.out).mono ?_
      rintro e w5 ⟨ao5, cc5, C5, rfl, i5, o5, hb⟩
      replace HB := Lib.hid (below_then HB.out (by first | exact hb | exact below_alloc_then hb))
      have I_x := Lib.hid i5
      have O_x := Lib.hid o5
      clear hb i5 o5
      go_wp2_with fail
      refine (refOf_p (Hl.out.later HB.out) (by have := Ll.out; have := O_x.out.few; (try simp only [List.length_append, List.length_map, List.length_cons, List.length_nil] at *); omega) Fl.out).mono ?_
      rintro e w6 ⟨ao6, cc6, C6, rfl, i6, o6, hb⟩
      replace HB := Lib.hid (below_then HB.out (by first | exact hb | exact below_alloc_then hb))
      replace I_x := Lib.hid (I_x.out.later (by first | exact hb | exact below_alloc_then hb))
      have I_y := Lib.hid i6
      have O_y := Lib.hid o6
      clear hb i6 o6
      go_wp2_with fail
      refine (refSameI_any _ _ (C5) (C6) _ I_x.out I_y.out (by have := Ll.out; have := O_x.out.few; have := O_y.out.few; (try simp only [List.length_append, List.length_map, List.length_cons, List.length_nil] at *); omega)).mono ?_
      rintro e w7 ⟨rfl, hb⟩
      replace HB := Lib.hid (below_then HB.out (by first | exact hb | exact below_alloc_then hb))
      replace I_x := Lib.hid (I_x.out.later (by first | exact hb | exact below_alloc_then hb))
      replace I_y := Lib.hid (I_y.out.later (by first | exact hb | exact below_alloc_then hb))
      clear hb
      rw [show sameI (C5) (C6) = true from of1_same O_x.out O_y.out fun r => rfl]
      go_wp2_with fail
      go_ret
      exact ⟨rfl, HB.out⟩

set_option maxRecDepth 100000 in
theorem lifted (os : Os) (started : os.Started) (H : Type) (enc : TypeId × Value → H) :
    ReturnsInHanded {} Try.checked os 3 .any (Rows.zsetTellsSpec.pre6 enc Try.prog Try.f3 Rows.zsetTellsRow.domain false) (Rows.zsetTellsSpec.post enc Try.prog Try.f3 false true false false) := by
  refine returnsInHanded_of_change_sized (C := Try.checked) ownKnob_none started (by kernel_rfl) Try.func3
    (ChangeSpec.witness6 (enc := enc) (C := Try.checked) false ⟨#[], #[.slice none 0 0, .slice none 0 0], []⟩ 8 (by kernel_rfl) (by kernel_rfl) (by kernel_rfl) (by kernel_rfl)) ?_
  intro W base args ds gs before hval0 hW hcnd hsz0 _
  have hval : ∀ (j : Nat) t v, Try.f3.params[j]? = some t → args[j]? = some v → Value.okWide Try.prog W .any base t v := hval0
  have hW' := hW
  obtain ⟨p, q, hA0, hV, rfl, hfz, hnd⟩ := hW
  have hA : DataW.TrodAll enc Try.prog W 0 (fun _ => true) true Try.f3.params.toList args.toList ds p := hA0
  have hsz : (DataW.weightsEach Try.prog (Try.f3.params.toList ++ Rows.zsetTellsSpec.plain.varTypes Try.prog) (ds ++ gs)).all (· ≤ reachBytes) = true := hsz0
  rw [Try.params3] at hA hval hsz
  obtain ⟨v0, vs0, d0, ds0, p0, q0, hargs, rfl, rfl, h0, r0r⟩ := trodAll_cons hA
  obtain ⟨v1, vs1, d1, ds1, p1, q1, rfl, rfl, rfl, h1, r1r⟩ := trodAll_cons r0r
  obtain ⟨rfl, rfl, rfl⟩ := trodAll_nil r1r
  obtain rfl : args = #[v0, v1] := by cases args; simp_all
  obtain ⟨rfl, rfl⟩ := trodVars_none hV
  have g0 := sized_at hsz (j := 0) rfl rfl
  have g1 := sized_at hsz (j := 1) rfl rfl
  obtain ⟨y0_0, f0_0, f0_1⟩ := open_items (hval 0 22 v0 rfl rfl) h0
  obtain ⟨y1_0, f1_0⟩ := open_row (hval 1 24 v1 rfl rfl) h1
  refine (walk v0 y0_0 v1 y1_0 W f0_0 f0_1 f1_0).mono fun e W' ⟨he, hg⟩ => ⟨_, he, law_post laidOut (by kernel_rfl) rfl Try.underlying4 rfl rfl hW' hg⟩

theorem over : Rows.zsetTellsRow.holds Try.pinned (OpenSpec.ofChange Rows.zsetTellsSpec) :=
  OpenClaim.holds_of_wide 3 Try.f3 rfl rfl rfl rfl rfl rfl rfl ⟨rfl, rfl, rfl, rfl, rfl⟩ rfl rfl rfl rfl rfl (by kernel_rfl) Try.func3 (by kernel_rfl)
    (of_decide_eq_true (by kernel_rfl)) (by unfold Func.isWrapper; first | (rw [if_pos (by decide +kernel)]; kernel_rfl) | (rw [if_neg (by decide +kernel)]; exact ⟨rfl, rfl⟩))
    (fun os started H enc _ => lifted os started H enc)

/-- THE STATEMENT. -/
theorem proved : Rows.ZsetTellsSaid :=
  over
#print axioms proved
end Go.Proofs.Ytgmemdhbnnhifaa.zsetTells
