/-
  The law RowApart.
-/
import Derived.Test.YtdfdgnnlpopkmaaLB
namespace Go.Proofs.Ytdfdgnnlpopkmaa.rowApart
open Go.ChangeShapes Go.WideShapes Go.ChangeAt Go.RowKit Go.Sort Go.BigFrame Go.Proofs.Ytdfdgnnlpopkmaa
open Go.ChangeMaps (open_string shut_string)

set_option maxRecDepth 100000 in
set_option maxHeartbeats 2000000 in
theorem walk (va : Value) (l : List Val) (vb : Value) (m : List Val) (vk vn : Int) (vs : ByteArray) (w : World) (ha : Rd w va l.length (rowCs l)) (hb : Rd w vb m.length (rowCs m)) :
    Calls Try.prog 8 #[va, vb, .agg #[.int .i64 vk, .int .i64 vn, .string vs]] w fun e w' => e = .returned (.bool true) ∧ Below w.heap.size w w' := by
  obtain ⟨aa, ca, rfl, hna, hma, _, _⟩ := id ha
  obtain ⟨ab, cb, rfl, hnb, hmb, _, _⟩ := id hb
  unfold maxLen at hma hmb
  have hB2 := below_alloc_then (below_alloc (w.alloc (.cells #[.int .i64 vk, .int .i64 vn, .string vs] 44)) (.cells #[.int .i64 vk, .int .i64 vn, .string vs] 44))
  have hC := rd_litg (w.alloc (.cells #[.int .i64 vk, .int .i64 vn, .string vs] 44)) #[.int .i64 vk, .int .i64 vn, .string vs] 44 1 (w.heap.size + 1) (xs := rowCs [⟨vk, vn, vs⟩]) (by decide) (alloc_size _ _) rfl
  have hc0 : ((w.alloc (.cells #[.int .i64 vk, .int .i64 vn, .string vs] 44)).alloc (.cells #[.int .i64 vk, .int .i64 vn, .string vs] 44)).cell? ⟨w.heap.size, 0, none⟩ = some (.int .i64 vk) := by simp [go_sem]
  have hc1 : ((w.alloc (.cells #[.int .i64 vk, .int .i64 vn, .string vs] 44)).alloc (.cells #[.int .i64 vk, .int .i64 vn, .string vs] 44)).cell? ⟨w.heap.size, 1, none⟩ = some (.int .i64 vn) := by simp [go_sem]
  have hc2 : ((w.alloc (.cells #[.int .i64 vk, .int .i64 vn, .string vs] 44)).alloc (.cells #[.int .i64 vk, .int .i64 vn, .string vs] 44)).cell? ⟨w.heap.size, 2, none⟩ = some (.string vs) := by simp [go_sem]
  have cF := few3 (l := l) (m := m) (n := [⟨vk, vn, vs⟩]) (g := w.heap.size + 1 + 1) (ha.later hB2) (hb.later hB2) hC (by simp)
  have HA := Lib.hid ha
  have HBB := Lib.hid hb
  have HX := Lib.hid (And.intro hB2 (And.intro hc0 (And.intro hc1 hc2)))
  clear ha hb hB2 hC hc0 hc1 hc2
  cases hf : (fewR l && (fewR m && fewR [⟨vk, vn, vs⟩]))
  · have HF := Lib.hid hf
    clear hf
    go_enter Try.func8, Try.ntmps8
    go_wp2_with fail
    refine cF.mono ?_
    rintro e w1 ⟨rfl, hb1⟩
    rw [HF.out]
    have HB := Lib.hid (below_then HX.out.1 hb1)
    clear hb1
    go_wp2_with fail
    refine (alive_any _).mono ?_
    rintro e w2 ⟨rfl, hb2⟩
    replace HB := Lib.hid (below_then HB.out (by first | exact hb2 | exact below_alloc_then hb2))
    clear hb2
    go_wp2_with fail
    go_ret
    exact ⟨rfl, HB.out⟩
  · have HF := Lib.hid hf
    have h60 : l.length ≤ 60 ∧ m.length ≤ 60 := by simp only [Bool.and_eq_true] at hf; exact ⟨fewR_len hf.1, fewR_len hf.2.1⟩
    clear hf
    cases h1 : allR l
    · have H1 := Lib.hid h1
      clear h1
      go_enter Try.func8, Try.ntmps8
      go_wp2_with fail
      refine cF.mono ?_
      rintro e w1 ⟨rfl, hb1⟩
      rw [HF.out]
      have HB := Lib.hid (below_then HX.out.1 hb1)
      clear hb1
      go_wp2_with fail
      refine (refAll_any _ l _ (HA.out.later HB.out)).mono ?_
      rintro e w2 ⟨rfl, hb2⟩
      rw [H1.out]
      replace HB := Lib.hid (below_then HB.out (by first | exact hb2 | exact below_alloc_then hb2))
      clear hb2
      go_wp2_with fail
      refine (alive_any _).mono ?_
      rintro e w3 ⟨rfl, hb3⟩
      replace HB := Lib.hid (below_then HB.out (by first | exact hb3 | exact below_alloc_then hb3))
      clear hb3
      go_wp2_with fail
      go_ret
      exact ⟨rfl, HB.out⟩
    · have H1 := Lib.hid h1
      clear h1
      cases h2 : allR m
      · have H2 := Lib.hid h2
        clear h2
        go_enter Try.func8, Try.ntmps8
        go_wp2_with fail
        refine cF.mono ?_
        rintro e w1 ⟨rfl, hb1⟩
        rw [HF.out]
        have HB := Lib.hid (below_then HX.out.1 hb1)
        clear hb1
        go_wp2_with fail
        refine (refAll_any _ l _ (HA.out.later HB.out)).mono ?_
        rintro e w2 ⟨rfl, hb2⟩
        rw [H1.out]
        replace HB := Lib.hid (below_then HB.out (by first | exact hb2 | exact below_alloc_then hb2))
        clear hb2
        go_wp2_with fail
        refine (refAll_any _ m _ (HBB.out.later HB.out)).mono ?_
        rintro e w3 ⟨rfl, hb3⟩
        rw [H2.out]
        replace HB := Lib.hid (below_then HB.out (by first | exact hb3 | exact below_alloc_then hb3))
        clear hb3
        go_wp2_with fail
        refine (alive_any _).mono ?_
        rintro e w4 ⟨rfl, hb4⟩
        replace HB := Lib.hid (below_then HB.out (by first | exact hb4 | exact below_alloc_then hb4))
        clear hb4
        go_wp2_with fail
        go_ret
        exact ⟨rfl, HB.out⟩
      · have H2 := Lib.hid h2
        have HE := Lib.hid (bytesR_same (l := l) (m := m) H1.out h2 (by omega) (by omega))
        clear h2
        go_enter Try.func8, Try.ntmps8
        go_wp2_with fail
        refine cF.mono ?_
        rintro e w1 ⟨rfl, hb1⟩
        rw [HF.out]
        have HB := Lib.hid (below_then HX.out.1 hb1)
        have c0 := cell_later hb1 HX.out.2.1
        have c1 := cell_later hb1 HX.out.2.2.1
        have c2 := cell_later hb1 HX.out.2.2.2
        clear hb1
        go_wp2_with fail
        refine (refAll_any _ l _ (HA.out.later HB.out)).mono ?_
        rintro e w2 ⟨rfl, hb2⟩
        rw [H1.out]
        replace HB := Lib.hid (below_then HB.out hb2)
        replace c0 := cell_later hb2 c0
        replace c1 := cell_later hb2 c1
        replace c2 := cell_later hb2 c2
        clear hb2
        go_wp2_with fail
        refine (refAll_any _ m _ (HBB.out.later HB.out)).mono ?_
        rintro e w3 ⟨rfl, hb3⟩
        rw [H2.out]
        replace HB := Lib.hid (below_then HB.out hb3)
        replace c0 := cell_later hb3 c0
        replace c1 := cell_later hb3 c1
        replace c2 := cell_later hb3 c2
        clear hb3
        obtain ⟨a8, hsl, hfull⟩ := run_part_full elR (HA.out.later HB.out) (rowCs_length l)
        have hb4 := below_of_drew (below_alloc w3.drew (.cells #[.int .i64 vk, .int .i64 vn, .string vs] 44))
        have hr4 := rd_litg w3.drew #[.int .i64 vk, .int .i64 vn, .string vs] 44 1 w3.heap.size (xs := rowCs [⟨vk, vn, vs⟩]) (by decide) rfl rfl
        have HS4 := Lib.hid (Src.of_rd (P := Try.prog) (size := 3) hr4 rfl)
        have HF4 := Lib.hid (hfull.later hb4)
        clear hr4 hfull
        have HB4 := Lib.hid hb4
        clear hb4
        go_wp2_with fail
        go_region_law ((refine step_app_full elR ⟨_, elR.ty, fun k h => nomatch h⟩ rfl _ _ rfl rfl rfl HF4.out (rowCs_length l) HS4.out (by unfold maxLen; omega) (by omega) ?_; intro v9 w9 hrd9 hb9))
        have H9 := Lib.hid (show Rd w9 v9 (l ++ [Val.mk vk vn vs]).length (rowCs (l ++ [Val.mk vk vn vs])) by rw [rowCs_snoc, List.length_append]; exact hrd9)
        replace HB := Lib.hid (below_then HB.out (below_then HB4.out hb9))
        have HM := Lib.hid (lessR_more l (Val.mk vk vn vs))
        clear hrd9 hb9 hsl c0 c1 c2
        go_wp2_with fail
        refine (alive_any _).mono ?_
        rintro e w10 ⟨rfl, hb10⟩
        replace HB := Lib.hid (below_then HB.out hb10)
        replace H9 := Lib.hid (H9.out.later hb10)
        clear hb10
        go_wp2_with fail
        refine (bytesR_any _ l _ (HA.out.later HB.out) (by omega) H1.out).mono ?_
        rintro e w11 ⟨v11, rfl, hown11, hb11⟩
        replace HB := Lib.hid (below_then HB.out hb11)
        replace H9 := Lib.hid (H9.out.later hb11)
        have H11 := Lib.hid (Rd.of_own hown11)
        clear hb11 hown11
        go_wp2_with fail
        refine (bytesR_any _ m _ (HBB.out.later HB.out) (by omega) H2.out).mono ?_
        rintro e w12 ⟨v12, rfl, hown12, hb12⟩
        replace HB := Lib.hid (below_then HB.out hb12)
        replace H9 := Lib.hid (H9.out.later hb12)
        replace H11 := Lib.hid (H11.out.later hb12)
        have H12 := Lib.hid (Rd.of_own hown12)
        clear hb12 hown12
        go_wp2_with fail
        refine (same_any _ _ _ _ _ H11.out H12.out).mono ?_
        rintro e w13 ⟨rfl, hb13⟩
        rw [HE.out]
        replace HB := Lib.hid (below_then HB.out hb13)
        replace H9 := Lib.hid (H9.out.later hb13)
        clear hb13
        go_wp2_with fail
        refine (sameR_any _ _ l m _ (HA.out.later HB.out) (HBB.out.later HB.out)).mono ?_
        rintro e w14 ⟨rfl, hb14⟩
        replace HB := Lib.hid (below_then HB.out hb14)
        replace H9 := Lib.hid (H9.out.later hb14)
        clear hb14
        generalize sameR l m = q
        have hq : (q == q) = true := by simp
        go_wp2_with fail
        refine (lessR_any _ _ l _ _ (HA.out.later HB.out) H9.out).mono ?_
        rintro e w15 ⟨rfl, hb15⟩
        rw [HM.out.1]
        replace HB := Lib.hid (below_then HB.out hb15)
        replace H9 := Lib.hid (H9.out.later hb15)
        clear hb15
        go_wp2_with fail
        refine (lessR_any _ _ _ l _ H9.out (HA.out.later HB.out)).mono ?_
        rintro e w16 ⟨rfl, hb16⟩
        rw [HM.out.2]
        replace HB := Lib.hid (below_then HB.out hb16)
        clear hb16
        go_wp2_with fail
        go_ret
        exact ⟨rfl, HB.out⟩

set_option maxRecDepth 100000 in
theorem lifted (os : Os) (started : os.Started) (H : Type) (enc : TypeId × Value → H) :
    ReturnsInHanded {} Try.checked os 8 .any (Rows.rowApartSpec.pre6 enc Try.prog Try.f8 Rows.rowApartRow.domain false) (Rows.rowApartSpec.post enc Try.prog Try.f8 false true false false) := by
  refine returnsInHanded_of_change_sized (C := Try.checked) ownKnob_none started (by kernel_rfl) Try.func8
    (ChangeSpec.witness6 (enc := enc) (C := Try.checked) false ⟨#[], #[.slice none 0 0, .slice none 0 0, .agg #[.int .i64 0, .int .i64 0, .string ⟨#[]⟩]], []⟩ 8 (by kernel_rfl) (by kernel_rfl) (by kernel_rfl) (by kernel_rfl)) ?_
  intro W base args ds gs before hval0 hW hcnd hsz0 _
  have hval : ∀ (j : Nat) t v, Try.f8.params[j]? = some t → args[j]? = some v → Value.okWide Try.prog W .any base t v := hval0
  have hW' := hW
  obtain ⟨p, q, hA0, hV, rfl, hfz, hnd⟩ := hW
  have hA : DataW.TrodAll enc Try.prog W 0 (fun _ => true) true Try.f8.params.toList args.toList ds p := hA0
  have hsz : (DataW.weightsEach Try.prog (Try.f8.params.toList ++ Rows.rowApartSpec.plain.varTypes Try.prog) (ds ++ gs)).all (· ≤ reachBytes) = true := hsz0
  rw [Try.params8] at hA hval hsz
  obtain ⟨v0, vs0, d0, ds0, p0, q0, hargs, rfl, rfl, h0, r0r⟩ := trodAll_cons hA
  obtain ⟨v1, vs1, d1, ds1, p1, q1, rfl, rfl, rfl, h1, r1r⟩ := trodAll_cons r0r
  obtain ⟨v2, vs2, d2, ds2, p2, q2, rfl, rfl, rfl, h2, r2r⟩ := trodAll_cons r1r
  obtain ⟨rfl, rfl, rfl⟩ := trodAll_nil r2r
  obtain rfl : args = #[v0, v1, v2] := by cases args; simp_all
  obtain ⟨rfl, rfl⟩ := trodVars_none hV
  have g0 := sized_at hsz (j := 0) rfl rfl
  have g1 := sized_at hsz (j := 1) rfl rfl
  have g2 := sized_at hsz (j := 2) rfl rfl
  obtain ⟨y0_0, f0_0⟩ := open_row (hval 0 24 v0 rfl rfl) h0
  obtain ⟨y1_0, f1_0⟩ := open_row (hval 1 24 v1 rfl rfl) h1
  obtain ⟨y2_0, y2_1, y2_2, rfl⟩ := open_value (hval 2 44 v2 rfl rfl) h2
  refine (walk v0 y0_0 v1 y1_0 y2_0 y2_1 y2_2 W f0_0 f1_0).mono fun e W' ⟨he, hg⟩ => ⟨_, he, law_post laidOut (by kernel_rfl) rfl Try.underlying4 rfl rfl hW' hg⟩

theorem over : Rows.rowApartRow.holds Try.pinned (OpenSpec.ofChange Rows.rowApartSpec) :=
  OpenClaim.holds_of_wide 8 Try.f8 rfl rfl rfl rfl rfl rfl rfl ⟨rfl, rfl, rfl, rfl, rfl⟩ rfl rfl rfl rfl rfl (by kernel_rfl) Try.func8 (by kernel_rfl)
    (of_decide_eq_true (by kernel_rfl)) (by unfold Func.isWrapper; first | (rw [if_pos (by decide +kernel)]; kernel_rfl) | (rw [if_neg (by decide +kernel)]; exact ⟨rfl, rfl⟩))
    (fun os started H enc _ => lifted os started H enc)

/-- THE STATEMENT. -/
theorem proved : Rows.RowApartSaid :=
  over
#print axioms proved
end Go.Proofs.Ytdfdgnnlpopkmaa.rowApart
