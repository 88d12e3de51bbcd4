/-
  The law RowOrder.
-/
import Derived.Test.YtdfdgnnlpopkmaaLB
namespace Go.Proofs.Ytdfdgnnlpopkmaa.rowOrder
open Go.ChangeShapes Go.WideShapes Go.ChangeAt Go.RowKit Go.Sort Go.BigFrame Go.Proofs.Ytdfdgnnlpopkmaa
open Go.ChangeMaps (open_string shut_string)

set_option maxRecDepth 100000 in
set_option maxHeartbeats 1000000 in
theorem walk (va : Value) (l : List Val) (vb : Value) (m : List Val) (w : World) (ha : Rd w va l.length (rowCs l)) (hb : Rd w vb m.length (rowCs m)) :
    Calls Try.prog 4 #[va, vb] w fun e w' => e = .returned (.bool true) ∧ Below w.heap.size w w' := by
  obtain ⟨aa, ca, rfl, hna, hma, _, _⟩ := id ha
  obtain ⟨ab, cb, rfl, hnb, hmb, _, _⟩ := id hb
  have HA := Lib.hid ha
  have HBB := Lib.hid hb
  have HB := Lib.hid (Below.refl w.heap.size w)
  clear ha hb
  cases hf : (fewR l && fewR m)
  · have HF := Lib.hid hf
    clear hf
    go_enter Try.func4, Try.ntmps4
    go_wp2_with fail
    refine (few2 (HA.out.later HB.out) (HBB.out.later HB.out) rfl).mono ?_
    rintro e w1 ⟨rfl, hb1⟩
    rw [HF.out]
    replace HB := Lib.hid (below_then HB.out (by first | exact hb1 | exact below_alloc_then hb1))
    clear hb1
    go_wp2_with fail
    refine (alive_any _).mono ?_
    rintro e w2 ⟨rfl, hb2⟩
    replace HB := Lib.hid (below_then HB.out (by first | exact hb2 | exact below_alloc_then hb2))
    clear hb2
    go_wp2_with fail
    go_ret
    exact ⟨rfl, HB.out⟩
  · have HF := Lib.hid hf
    clear hf
    cases h1 : allR l
    · have H1 := Lib.hid h1
      clear h1
      go_enter Try.func4, Try.ntmps4
      go_wp2_with fail
      refine (few2 (HA.out.later HB.out) (HBB.out.later HB.out) rfl).mono ?_
      rintro e w3 ⟨rfl, hb3⟩
      rw [HF.out]
      replace HB := Lib.hid (below_then HB.out (by first | exact hb3 | exact below_alloc_then hb3))
      clear hb3
      go_wp2_with fail
      refine (refAll_any _ l _ (HA.out.later HB.out)).mono ?_
      rintro e w4 ⟨rfl, hb4⟩
      rw [H1.out]
      replace HB := Lib.hid (below_then HB.out (by first | exact hb4 | exact below_alloc_then hb4))
      clear hb4
      go_wp2_with fail
      refine (alive_any _).mono ?_
      rintro e w5 ⟨rfl, hb5⟩
      replace HB := Lib.hid (below_then HB.out (by first | exact hb5 | exact below_alloc_then hb5))
      clear hb5
      go_wp2_with fail
      go_ret
      exact ⟨rfl, HB.out⟩
    · have H1 := Lib.hid h1
      clear h1
      cases h2 : allR m
      · have H2 := Lib.hid h2
        clear h2
        go_enter Try.func4, Try.ntmps4
        go_wp2_with fail
        refine (few2 (HA.out.later HB.out) (HBB.out.later HB.out) rfl).mono ?_
        rintro e w6 ⟨rfl, hb6⟩
        rw [HF.out]
        replace HB := Lib.hid (below_then HB.out (by first | exact hb6 | exact below_alloc_then hb6))
        clear hb6
        go_wp2_with fail
        refine (refAll_any _ l _ (HA.out.later HB.out)).mono ?_
        rintro e w7 ⟨rfl, hb7⟩
        rw [H1.out]
        replace HB := Lib.hid (below_then HB.out (by first | exact hb7 | exact below_alloc_then hb7))
        clear hb7
        go_wp2_with fail
        refine (refAll_any _ m _ (HBB.out.later HB.out)).mono ?_
        rintro e w8 ⟨rfl, hb8⟩
        rw [H2.out]
        replace HB := Lib.hid (below_then HB.out (by first | exact hb8 | exact below_alloc_then hb8))
        clear hb8
        go_wp2_with fail
        refine (alive_any _).mono ?_
        rintro e w9 ⟨rfl, hb9⟩
        replace HB := Lib.hid (below_then HB.out (by first | exact hb9 | exact below_alloc_then hb9))
        clear hb9
        go_wp2_with fail
        go_ret
        exact ⟨rfl, HB.out⟩
      · have H2 := Lib.hid h2
        clear h2
        go_enter Try.func4, Try.ntmps4
        go_wp2_with fail
        refine (few2 (HA.out.later HB.out) (HBB.out.later HB.out) rfl).mono ?_
        rintro e w10 ⟨rfl, hb10⟩
        rw [HF.out]
        replace HB := Lib.hid (below_then HB.out (by first | exact hb10 | exact below_alloc_then hb10))
        clear hb10
        go_wp2_with fail
        refine (refAll_any _ l _ (HA.out.later HB.out)).mono ?_
        rintro e w11 ⟨rfl, hb11⟩
        rw [H1.out]
        replace HB := Lib.hid (below_then HB.out (by first | exact hb11 | exact below_alloc_then hb11))
        clear hb11
        go_wp2_with fail
        refine (refAll_any _ m _ (HBB.out.later HB.out)).mono ?_
        rintro e w12 ⟨rfl, hb12⟩
        rw [H2.out]
        replace HB := Lib.hid (below_then HB.out (by first | exact hb12 | exact below_alloc_then hb12))
        clear hb12
        go_wp2_with fail
        refine (alive_any _).mono ?_
        rintro e w13 ⟨rfl, hb13⟩
        replace HB := Lib.hid (below_then HB.out (by first | exact hb13 | exact below_alloc_then hb13))
        clear hb13
        go_wp2_with fail
        refine (lessR_any _ _ l m _ (HA.out.later HB.out) (HBB.out.later HB.out)).mono ?_
        rintro e w14 ⟨rfl, hb14⟩
        replace HB := Lib.hid (below_then HB.out (by first | exact hb14 | exact below_alloc_then hb14))
        clear hb14
        go_wp2_with fail
        refine (refLessR_any _ _ l m _ (HA.out.later HB.out) (HBB.out.later HB.out)).mono ?_
        rintro e w15 ⟨rfl, hb15⟩
        replace HB := Lib.hid (below_then HB.out (by first | exact hb15 | exact below_alloc_then hb15))
        clear hb15
        go_wp2_with fail
        refine (sameR_any _ _ l m _ (HA.out.later HB.out) (HBB.out.later HB.out)).mono ?_
        rintro e w16 ⟨rfl, hb16⟩
        replace HB := Lib.hid (below_then HB.out (by first | exact hb16 | exact below_alloc_then hb16))
        clear hb16
        go_wp2_with fail
        refine (refSameR_any _ _ l m _ (HA.out.later HB.out) (HBB.out.later HB.out)).mono ?_
        rintro e w17 ⟨rfl, hb17⟩
        replace HB := Lib.hid (below_then HB.out (by first | exact hb17 | exact below_alloc_then hb17))
        clear hb17
        go_wp2_with fail
        go_ret
        exact ⟨ret_bool (by simp), HB.out⟩

set_option maxRecDepth 100000 in
theorem lifted (os : Os) (started : os.Started) (H : Type) (enc : TypeId × Value → H) :
    ReturnsInHanded {} Try.checked os 4 .any (Rows.rowOrderSpec.pre6 enc Try.prog Try.f4 Rows.rowOrderRow.domain false) (Rows.rowOrderSpec.post enc Try.prog Try.f4 false true false false) := by
  refine returnsInHanded_of_change_sized (C := Try.checked) ownKnob_none started (by kernel_rfl) Try.func4
    (ChangeSpec.witness6 (enc := enc) (C := Try.checked) false ⟨#[], #[.slice none 0 0, .slice none 0 0], []⟩ 8 (by kernel_rfl) (by kernel_rfl) (by kernel_rfl) (by kernel_rfl)) ?_
  intro W base args ds gs before hval0 hW hcnd hsz0 _
  have hval : ∀ (j : Nat) t v, Try.f4.params[j]? = some t → args[j]? = some v → Value.okWide Try.prog W .any base t v := hval0
  have hW' := hW
  obtain ⟨p, q, hA0, hV, rfl, hfz, hnd⟩ := hW
  have hA : DataW.TrodAll enc Try.prog W 0 (fun _ => true) true Try.f4.params.toList args.toList ds p := hA0
  have hsz : (DataW.weightsEach Try.prog (Try.f4.params.toList ++ Rows.rowOrderSpec.plain.varTypes Try.prog) (ds ++ gs)).all (· ≤ reachBytes) = true := hsz0
  rw [Try.params4] at hA hval hsz
  obtain ⟨v0, vs0, d0, ds0, p0, q0, hargs, rfl, rfl, h0, r0r⟩ := trodAll_cons hA
  obtain ⟨v1, vs1, d1, ds1, p1, q1, rfl, rfl, rfl, h1, r1r⟩ := trodAll_cons r0r
  obtain ⟨rfl, rfl, rfl⟩ := trodAll_nil r1r
  obtain rfl : args = #[v0, v1] := by cases args; simp_all
  obtain ⟨rfl, rfl⟩ := trodVars_none hV
  have g0 := sized_at hsz (j := 0) rfl rfl
  have g1 := sized_at hsz (j := 1) rfl rfl
  obtain ⟨y0_0, f0_0⟩ := open_row (hval 0 24 v0 rfl rfl) h0
  obtain ⟨y1_0, f1_0⟩ := open_row (hval 1 24 v1 rfl rfl) h1
  refine (walk v0 y0_0 v1 y1_0 W f0_0 f1_0).mono fun e W' ⟨he, hg⟩ => ⟨_, he, law_post laidOut (by kernel_rfl) rfl Try.underlying4 rfl rfl hW' hg⟩

theorem over : Rows.rowOrderRow.holds Try.pinned (OpenSpec.ofChange Rows.rowOrderSpec) :=
  OpenClaim.holds_of_wide 4 Try.f4 rfl rfl rfl rfl rfl rfl rfl ⟨rfl, rfl, rfl, rfl, rfl⟩ rfl rfl rfl rfl rfl (by kernel_rfl) Try.func4 (by kernel_rfl)
    (of_decide_eq_true (by kernel_rfl)) (by unfold Func.isWrapper; first | (rw [if_pos (by decide +kernel)]; kernel_rfl) | (rw [if_neg (by decide +kernel)]; exact ⟨rfl, rfl⟩))
    (fun os started H enc _ => lifted os started H enc)

/-- THE STATEMENT. -/
theorem proved : Rows.RowOrderSaid :=
  over
#print axioms proved
end Go.Proofs.Ytdfdgnnlpopkmaa.rowOrder
