/-
  The law ClockOrders.
-/
import Derived.Test.YtboblpmpklofgaaTL
namespace Go.Proofs.Ytboblpmpklofgaa.clockOrders
open Go.ChangeShapes Go.WideShapes Go.ChangeAt Go.RowKit Go.Sort Go.BigFrame Go.Proofs.Ytboblpmpklofgaa
open Go.ChangeMaps (open_string shut_string)

set_option maxRecDepth 100000 in
set_option maxHeartbeats 1000000 in
theorem walk (va : Value) (l : List Stp) (w : World) (h : Rd w va l.length (stCs l)) :
    Calls Try.prog 4 #[va] w fun e w' => e = .returned (.bool true) ∧ Below w.heap.size w w' := by
  obtain ⟨ao, c, rfl, hnc, hcm, _, _⟩ := id h
  unfold maxLen at hcm
  have HA := Lib.hid h
  have HB := Lib.hid (Below.refl w.heap.size w)
  clear h
  by_cases hbig : 60 < l.length
  · have hE : decide ((60 : Int) < (l.length : Int)) = true := by simp; omega
    go_enter Try.func4, Try.ntmps4
    go_wp2_with fail
    refine (awake_any _).mono ?_
    rintro e w1 ⟨rfl, hb⟩
    replace HB := Lib.hid (below_then HB.out hb)
    clear hb
    go_wp2_with fail
    go_ret
    exact ⟨rfl, HB.out⟩
  · have hE : decide ((60 : Int) < (l.length : Int)) = false := by simp; omega
    have hsm : l.length ≤ 1000000 := by omega
    go_enter Try.func4, Try.ntmps4
    go_wp2_with fail
    refine (awake_any _).mono ?_
    rintro e w1 ⟨rfl, hb⟩
    replace HB := Lib.hid (below_then HB.out hb)
    clear hb
    go_wp2_with fail
    refine (order_any _ l _ (HA.out.later HB.out) hsm).mono ?_
    rintro e w2 ⟨v2, rfl, hr2, hb⟩
    replace HB := Lib.hid (below_then HB.out hb)
    have HR2 := Lib.hid hr2
    clear hb hr2
    go_wp2_with fail
    refine (refOrder_any _ l _ (HA.out.later HB.out) hsm).mono ?_
    rintro e w3 ⟨v3, rfl, hr3, hb⟩
    replace HB := Lib.hid (below_then HB.out hb)
    have HR2' := Lib.hid (HR2.out.later hb)
    have HR3 := Lib.hid hr3
    clear hb hr3
    go_wp2_with fail
    refine (sameI_any _ _ (orderL l) (orderL l) _ (by rw [orderL_length]; exact HR2'.out) (by rw [orderL_length]; exact HR3.out) (by rw [orderL_length]; exact hsm)).mono ?_
    rintro e w4 ⟨rfl, hb⟩
    replace HB := Lib.hid (below_then HB.out hb)
    clear hb
    rw [decide_eq_true rfl]
    go_wp2_with fail
    go_ret
    exact ⟨rfl, HB.out⟩

set_option maxRecDepth 100000 in
theorem lifted (os : Os) (started : os.Started) (H : Type) (enc : TypeId × Value → H) :
    ReturnsInHanded {} Try.checked os 4 .any (Rows.clockOrdersSpec.pre6 enc Try.prog Try.f4 Rows.clockOrdersRow.domain false) (Rows.clockOrdersSpec.post enc Try.prog Try.f4 false true false false) := by
  refine returnsInHanded_of_change_sized (C := Try.checked) ownKnob_none started (by kernel_rfl) Try.func4
    (ChangeSpec.witness6 (enc := enc) (C := Try.checked) false ⟨#[], #[.slice none 0 0], []⟩ 8 (by kernel_rfl) (by kernel_rfl) (by kernel_rfl) (by kernel_rfl)) ?_
  intro W base args ds gs before hval0 hW hcnd hsz0 _
  have hval : ∀ (j : Nat) t v, Try.f4.params[j]? = some t → args[j]? = some v → Value.okWide Try.prog W .any base t v := hval0
  have hW' := hW
  obtain ⟨p, q, hA0, hV, rfl, hfz, hnd⟩ := hW
  have hA : DataW.TrodAll enc Try.prog W 0 (fun _ => true) true Try.f4.params.toList args.toList ds p := hA0
  have hsz : (DataW.weightsEach Try.prog (Try.f4.params.toList ++ Rows.clockOrdersSpec.plain.varTypes Try.prog) (ds ++ gs)).all (· ≤ reachBytes) = true := hsz0
  rw [Try.params4] at hA hval hsz
  obtain ⟨v0, vs0, d0, ds0, p0, q0, hargs, rfl, rfl, h0, r0r⟩ := trodAll_cons hA
  obtain ⟨rfl, rfl, rfl⟩ := trodAll_nil r0r
  obtain rfl : args = #[v0] := by cases args; simp_all
  obtain ⟨rfl, rfl⟩ := trodVars_none hV
  have g0 := sized_at hsz (j := 0) rfl rfl
  obtain ⟨y0_0, f0_0⟩ := open_stps (hval 0 31 v0 rfl rfl) h0
  refine (walk v0 y0_0 W f0_0).mono fun e W' ⟨he, hg⟩ => ⟨_, he, law_post laidOut (by kernel_rfl) rfl Try.underlying4 rfl rfl hW' hg⟩

theorem over : Rows.clockOrdersRow.holds Try.pinned (OpenSpec.ofChange Rows.clockOrdersSpec) :=
  OpenClaim.holds_of_wide 4 Try.f4 rfl rfl rfl rfl rfl rfl rfl ⟨rfl, rfl, rfl, rfl, rfl⟩ rfl rfl rfl rfl rfl (by kernel_rfl) Try.func4 (by kernel_rfl)
    (of_decide_eq_true (by kernel_rfl)) (by unfold Func.isWrapper; first | (rw [if_pos (by decide +kernel)]; kernel_rfl) | (rw [if_neg (by decide +kernel)]; exact ⟨rfl, rfl⟩))
    (fun os started H enc _ => lifted os started H enc)

/-- THE STATEMENT. -/
theorem proved : Rows.ClockOrdersSaid :=
  over
#print axioms proved
end Go.Proofs.Ytboblpmpklofgaa.clockOrders
