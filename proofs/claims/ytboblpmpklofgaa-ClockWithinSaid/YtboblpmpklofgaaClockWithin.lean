/-
  The law ClockWithin.
-/
import Derived.Test.YtboblpmpklofgaaTL
namespace Go.Proofs.Ytboblpmpklofgaa.clockWithin
open Go.ChangeShapes Go.WideShapes Go.ChangeAt Go.RowKit Go.Sort Go.BigFrame Go.Proofs.Ytboblpmpklofgaa
open Go.ChangeMaps (open_string shut_string)

theorem rz {t p : Int} (h : rightT t p = 0) : 0 ≤ p ∧ p < t ∧ t ≤ 1125899906842624 ∧ t - p ≤ 1048576 := by
  unfold rightT at h
  split at h
  · cases h
  · omega
theorem rb {t p : Int} (h : rightT t p = 14) : p < 0 ∨ t ≤ p ∨ 1125899906842624 < t ∨ 1048576 < t - p := by
  unfold rightT at h
  split at h
  · assumption
  · cases h

set_option maxRecDepth 100000 in
set_option maxHeartbeats 1000000 in
theorem walk (a b c p : Int) (w : World) (_ : -9223372036854775808 ≤ a ∧ a ≤ 9223372036854775807) (_ : -9223372036854775808 ≤ b ∧ b ≤ 9223372036854775807) (_ : -9223372036854775808 ≤ c ∧ c ≤ 9223372036854775807) (_ : -9223372036854775808 ≤ p ∧ p ≤ 9223372036854775807) :
    Calls Try.prog 7 #[.int .i64 a, .int .i64 b, .int .i64 c, .int .i64 p] w fun e w' => e = .returned (.bool true) ∧ Below w.heap.size w w' := by
  have HB := Lib.hid (Below.refl w.heap.size w)
  by_cases h1 : b < a
  · go_enter Try.func7, Try.ntmps7
    go_wp2_with fail
    refine (awake_any _).mono ?_
    rintro e w1 ⟨rfl, hb⟩
    replace HB := Lib.hid (below_then HB.out (by first | exact hb | exact below_alloc_then hb | exact below_alloc_then (below_alloc_then hb) | exact below_alloc_then (below_alloc_then (below_alloc_then hb))))
    clear hb
    go_wp2_with fail
    go_ret
    exact ⟨rfl, HB.out⟩
  · by_cases h2 : c < b
    · go_enter Try.func7, Try.ntmps7
      go_wp2_with fail
      refine (awake_any _).mono ?_
      rintro e w1 ⟨rfl, hb⟩
      replace HB := Lib.hid (below_then HB.out (by first | exact hb | exact below_alloc_then hb | exact below_alloc_then (below_alloc_then hb) | exact below_alloc_then (below_alloc_then (below_alloc_then hb))))
      clear hb
      go_wp2_with fail
      go_ret
      exact ⟨rfl, HB.out⟩
    · rcases rightT_or a p with hx | hx <;> rcases rightT_or b p with hy | hy <;> rcases rightT_or c p with hz | hz <;> by_cases hap : a ≤ p
      all_goals first
        | (exfalso
           have := hx; have := hy; have := hz
           first
             | (have := rz hx; have := rb hy; have := rz hz; omega)
             | (have := rb hx; have := rz hy; omega)
             | (have := rz hx; omega))
        | (have HX := Lib.hid hx
           have HY := Lib.hid hy
           have HZ := Lib.hid hz
           clear hx hy hz
           go_enter Try.func7, Try.ntmps7
           go_wp2_with fail
           refine (awake_any _).mono ?_
           rintro e w1 ⟨rfl, hb⟩
           replace HB := Lib.hid (below_then HB.out (by first | exact hb | exact below_alloc_then hb | exact below_alloc_then (below_alloc_then hb) | exact below_alloc_then (below_alloc_then (below_alloc_then hb))))
           clear hb
           go_wp2_with fail
           refine (rightT_any a p _).mono ?_
           rintro e w2 ⟨rfl, rfl⟩
           rw [HX.out]
           go_wp2_with fail
           refine (rightT_any b p _).mono ?_
           rintro e w2 ⟨rfl, rfl⟩
           rw [HY.out]
           go_wp2_with fail
           refine (rightT_any c p _).mono ?_
           rintro e w2 ⟨rfl, rfl⟩
           rw [HZ.out]
           go_wp2_with fail
           go_ret
           exact ⟨rfl, HB.out⟩)

set_option maxRecDepth 100000 in
theorem lifted (os : Os) (started : os.Started) (H : Type) (enc : TypeId × Value → H) :
    ReturnsInHanded {} Try.checked os 7 .any (Rows.clockWithinSpec.pre6 enc Try.prog Try.f7 Rows.clockWithinRow.domain false) (Rows.clockWithinSpec.post enc Try.prog Try.f7 false true false false) := by
  refine returnsInHanded_of_change_sized (C := Try.checked) ownKnob_none started (by kernel_rfl) Try.func7
    (ChangeSpec.witness6 (enc := enc) (C := Try.checked) false ⟨#[], #[.int .i64 0, .int .i64 0, .int .i64 0, .int .i64 0], []⟩ 8 (by kernel_rfl) (by kernel_rfl) (by kernel_rfl) (by kernel_rfl)) ?_
  intro W base args ds gs before hval0 hW hcnd hsz0 _
  have hval : ∀ (j : Nat) t v, Try.f7.params[j]? = some t → args[j]? = some v → Value.okWide Try.prog W .any base t v := hval0
  have hW' := hW
  obtain ⟨p, q, hA0, hV, rfl, hfz, hnd⟩ := hW
  have hA : DataW.TrodAll enc Try.prog W 0 (fun _ => true) true Try.f7.params.toList args.toList ds p := hA0
  have hsz : (DataW.weightsEach Try.prog (Try.f7.params.toList ++ Rows.clockWithinSpec.plain.varTypes Try.prog) (ds ++ gs)).all (· ≤ reachBytes) = true := hsz0
  rw [Try.params7] at hA hval hsz
  obtain ⟨v0, vs0, d0, ds0, p0, q0, hargs, rfl, rfl, h0, r0r⟩ := trodAll_cons hA
  obtain ⟨v1, vs1, d1, ds1, p1, q1, rfl, rfl, rfl, h1, r1r⟩ := trodAll_cons r0r
  obtain ⟨v2, vs2, d2, ds2, p2, q2, rfl, rfl, rfl, h2, r2r⟩ := trodAll_cons r1r
  obtain ⟨v3, vs3, d3, ds3, p3, q3, rfl, rfl, rfl, h3, r3r⟩ := trodAll_cons r2r
  obtain ⟨rfl, rfl, rfl⟩ := trodAll_nil r3r
  obtain rfl : args = #[v0, v1, v2, v3] := by cases args; simp_all
  obtain ⟨rfl, rfl⟩ := trodVars_none hV
  have g0 := sized_at hsz (j := 0) rfl rfl
  have g1 := sized_at hsz (j := 1) rfl rfl
  have g2 := sized_at hsz (j := 2) rfl rfl
  have g3 := sized_at hsz (j := 3) rfl rfl
  obtain ⟨a0, rfl, rfl, rfl, w0⟩ := open_int Try.underlying3 (hval 0 3 v0 rfl rfl) h0
  obtain ⟨a1, rfl, rfl, rfl, w1⟩ := open_int Try.underlying3 (hval 1 3 v1 rfl rfl) h1
  obtain ⟨a2, rfl, rfl, rfl, w2⟩ := open_int Try.underlying3 (hval 2 3 v2 rfl rfl) h2
  obtain ⟨a3, rfl, rfl, rfl, w3⟩ := open_int Try.underlying3 (hval 3 3 v3 rfl rfl) h3
  refine (walk a0 a1 a2 a3 W (wf_i64 w0) (wf_i64 w1) (wf_i64 w2) (wf_i64 w3)).mono fun e W' ⟨he, hg⟩ => ⟨_, he, law_post laidOut (by kernel_rfl) rfl Try.underlying4 rfl rfl hW' hg⟩

theorem over : Rows.clockWithinRow.holds Try.pinned (OpenSpec.ofChange Rows.clockWithinSpec) :=
  OpenClaim.holds_of_wide 7 Try.f7 rfl rfl rfl rfl rfl rfl rfl ⟨rfl, rfl, rfl, rfl, rfl⟩ rfl rfl rfl rfl rfl (by kernel_rfl) Try.func7 (by kernel_rfl)
    (of_decide_eq_true (by kernel_rfl)) (by unfold Func.isWrapper; first | (rw [if_pos (by decide +kernel)]; kernel_rfl) | (rw [if_neg (by decide +kernel)]; exact ⟨rfl, rfl⟩))
    (fun os started H enc _ => lifted os started H enc)

/-- THE STATEMENT. -/
theorem proved : Rows.ClockWithinSaid :=
  over
#print axioms proved
end Go.Proofs.Ytboblpmpklofgaa.clockWithin
