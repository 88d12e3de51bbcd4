/-
  The law ClockTells.
-/
import Derived.Test.YtboblpmpklofgaaTL
namespace Go.Proofs.Ytboblpmpklofgaa.clockTells
open Go.ChangeShapes Go.WideShapes Go.ChangeAt Go.RowKit Go.Sort Go.BigFrame Go.Proofs.Ytboblpmpklofgaa
open Go.ChangeMaps (open_string shut_string)

set_option maxRecDepth 100000 in
set_option maxHeartbeats 1000000 in
theorem walk (a b : Stp) (k n : Int) (w : World) (_ : -9223372036854775808 ≤ k ∧ k ≤ 9223372036854775807) (_ : -9223372036854775808 ≤ n ∧ n ≤ 9223372036854775807) :
    Calls Try.prog 3 #[a.agg, b.agg, .int .i64 k, .int .i64 n] w fun e w' => e = .returned (.bool true) ∧ Below w.heap.size w w' := by
  have A := (Box3.new w (.int .i64 a.t) (.int .i64 a.d) (.int .i64 a.s) 23).later (below_alloc _ (.cells #[.int .i64 b.t, .int .i64 b.d, .int .i64 b.s] 23))
  have B : Box3 ((w.alloc (.cells #[.int .i64 a.t, .int .i64 a.d, .int .i64 a.s] 23)).alloc (.cells #[.int .i64 b.t, .int .i64 b.d, .int .i64 b.s] 23)) (w.heap.size + 1) (.int .i64 b.t) (.int .i64 b.d) (.int .i64 b.s) := by
    have := Box3.new (w.alloc (.cells #[.int .i64 a.t, .int .i64 a.d, .int .i64 a.s] 23)) (.int .i64 b.t) (.int .i64 b.d) (.int .i64 b.s) 23
    simpa using this
  have HB := Lib.hid (below_alloc_then (below_alloc (w.alloc (.cells #[.int .i64 a.t, .int .i64 a.d, .int .i64 a.s] 23)) (.cells #[.int .i64 b.t, .int .i64 b.d, .int .i64 b.s] 23)))
  have HAB := Lib.hid (And.intro A B)
  clear A B
  go_enter Try.func3, Try.ntmps3
  go_wp2_with fail
  refine (awake_any _).mono ?_
  rintro e w1 ⟨rfl, hb⟩
  obtain ⟨A, B⟩ := HAB.out
  replace A := A.later hb
  replace B := B.later hb
  replace HB := Lib.hid (below_then HB.out hb)
  have c0 := A.c0; have c1 := A.c1; have c2 := A.c2; have d0 := B.c0; have d1 := B.c1; have d2 := B.c2
  clear hb HAB A B
  go_wp2_with fail
  refine (nextT_any k n _).mono ?_
  rintro e w2 ⟨rfl, rfl⟩
  go_wp2_with fail
  refine (refNextT_any k n _).mono ?_
  rintro e w2 ⟨rfl, rfl⟩
  go_wp2_with fail
  have cL : ∀ d os, Calls Try.prog 12 #[a.agg, b.agg] (grow (redrawn w1 d) os) fun e w'' => e = .returned (.bool (lessS a b)) ∧ ∃ p : Regrown, w'' = grow (redrawn w1 p.d) p.os := fun d os => Calls.regrown_of (less_any a b _)
  have cM : ∀ d os, Calls Try.prog 13 #[a.agg, b.agg] (grow (redrawn w1 d) os) fun e w'' => e = .returned (.bool (lessS a b)) ∧ ∃ p : Regrown, w'' = grow (redrawn w1 p.d) p.os := fun d os => Calls.regrown_of (refLess_any a b _)
  have cR : ∀ d os, Calls Try.prog 14 #[.int .i64 n, .int .i64 k] (grow (redrawn w1 d) os) fun e w'' => e = .returned (.int .i64 (rightT n k)) ∧ ∃ p : Regrown, w'' = grow (redrawn w1 p.d) p.os := fun d os => Calls.regrown_of ((rightT_any n k _).mono fun e w' h => ⟨h.1, h.2 ▸ Below.refl _ _⟩)
  have cS : ∀ d os, Calls Try.prog 15 #[.int .i64 n, .int .i64 k] (grow (redrawn w1 d) os) fun e w'' => e = .returned (.int .i64 (rightT n k)) ∧ ∃ p : Regrown, w'' = grow (redrawn w1 p.d) p.os := fun d os => Calls.regrown_of ((refRightT_any n k _).mono fun e w' h => ⟨h.1, h.2 ▸ Below.refl _ _⟩)
  have kc0 := cell_regrown c0
  have kc1 := cell_regrown c1
  have kc2 := cell_regrown c2
  have kd0 := cell_regrown d0
  have kd1 := cell_regrown d1
  have kd2 := cell_regrown d2
  refine wp_region_quiet_below (by kernel_rfl) (by kernel_rfl) ?_
  repeat (go_big_quiet_step (first | exact cL _ _ | exact cM _ _ | exact cR _ _ | exact cS _ _))
  refine wpQuiet_nil ?_
  intro _ hw'
  obtain ⟨⟨dq, osq⟩, hw''⟩ := hw'
  subst hw''
  clear kc0 kc1 kc2 kd0 kd1 kd2 cL cM cR cS
  have hb3 := below_regrown w1 dq osq
  generalize grow (redrawn w1 dq) osq = w3 at *
  replace c0 := cell_later hb3 c0
  replace c1 := cell_later hb3 c1
  replace c2 := cell_later hb3 c2
  replace d0 := cell_later hb3 d0
  replace d1 := cell_later hb3 d1
  replace d2 := cell_later hb3 d2
  go_wp2_with fail
  go_ret
  exact ⟨by simp, below_then HB.out hb3⟩

set_option maxRecDepth 100000 in
theorem lifted (os : Os) (started : os.Started) (H : Type) (enc : TypeId × Value → H) :
    ReturnsInHanded {} Try.checked os 3 .any (Rows.clockTellsSpec.pre6 enc Try.prog Try.f3 Rows.clockTellsRow.domain false) (Rows.clockTellsSpec.post enc Try.prog Try.f3 false true false false) := by
  refine returnsInHanded_of_change_sized (C := Try.checked) ownKnob_none started (by kernel_rfl) Try.func3
    (ChangeSpec.witness6 (enc := enc) (C := Try.checked) false ⟨#[], #[.agg #[.int .i64 0, .int .i64 0, .int .i64 0], .agg #[.int .i64 0, .int .i64 0, .int .i64 0], .int .i64 0, .int .i64 0], []⟩ 8 (by kernel_rfl) (by kernel_rfl) (by kernel_rfl) (by kernel_rfl)) ?_
  intro W base args ds gs before hval0 hW hcnd hsz0 _
  have hval : ∀ (j : Nat) t v, Try.f3.params[j]? = some t → args[j]? = some v → Value.okWide Try.prog W .any base t v := hval0
  have hW' := hW
  obtain ⟨p, q, hA0, hV, rfl, hfz, hnd⟩ := hW
  have hA : DataW.TrodAll enc Try.prog W 0 (fun _ => true) true Try.f3.params.toList args.toList ds p := hA0
  have hsz : (DataW.weightsEach Try.prog (Try.f3.params.toList ++ Rows.clockTellsSpec.plain.varTypes Try.prog) (ds ++ gs)).all (· ≤ reachBytes) = true := hsz0
  rw [Try.params3] at hA hval hsz
  obtain ⟨v0, vs0, d0, ds0, p0, q0, hargs, rfl, rfl, h0, r0r⟩ := trodAll_cons hA
  obtain ⟨v1, vs1, d1, ds1, p1, q1, rfl, rfl, rfl, h1, r1r⟩ := trodAll_cons r0r
  obtain ⟨v2, vs2, d2, ds2, p2, q2, rfl, rfl, rfl, h2, r2r⟩ := trodAll_cons r1r
  obtain ⟨v3, vs3, d3, ds3, p3, q3, rfl, rfl, rfl, h3, r3r⟩ := trodAll_cons r2r
  obtain ⟨rfl, rfl, rfl⟩ := trodAll_nil r3r
  obtain rfl : args = #[v0, v1, v2, v3] := by cases args; simp_all
  obtain ⟨rfl, rfl⟩ := trodVars_none hV
  have g0 := sized_at hsz (j := 0) rfl rfl
  have g1 := sized_at hsz (j := 1) rfl rfl
  have g2 := sized_at hsz (j := 2) rfl rfl
  have g3 := sized_at hsz (j := 3) rfl rfl
  obtain ⟨y0_0, rfl⟩ := open_stp (hval 0 23 v0 rfl rfl) h0
  obtain ⟨y1_0, rfl⟩ := open_stp (hval 1 23 v1 rfl rfl) h1
  obtain ⟨a2, rfl, rfl, rfl, w2⟩ := open_int Try.underlying3 (hval 2 3 v2 rfl rfl) h2
  obtain ⟨a3, rfl, rfl, rfl, w3⟩ := open_int Try.underlying3 (hval 3 3 v3 rfl rfl) h3
  refine (walk y0_0 y1_0 a2 a3 W (wf_i64 w2) (wf_i64 w3)).mono fun e W' ⟨he, hg⟩ => ⟨_, he, law_post laidOut (by kernel_rfl) rfl Try.underlying4 rfl rfl hW' hg⟩

theorem over : Rows.clockTellsRow.holds Try.pinned (OpenSpec.ofChange Rows.clockTellsSpec) :=
  OpenClaim.holds_of_wide 3 Try.f3 rfl rfl rfl rfl rfl rfl rfl ⟨rfl, rfl, rfl, rfl, rfl⟩ rfl rfl rfl rfl rfl (by kernel_rfl) Try.func3 (by kernel_rfl)
    (of_decide_eq_true (by kernel_rfl)) (by unfold Func.isWrapper; first | (rw [if_pos (by decide +kernel)]; kernel_rfl) | (rw [if_neg (by decide +kernel)]; exact ⟨rfl, rfl⟩))
    (fun os started H enc _ => lifted os started H enc)

/-- THE STATEMENT. -/
theorem proved : Rows.ClockTellsSaid :=
  over
#print axioms proved
end Go.Proofs.Ytboblpmpklofgaa.clockTells
