/-
  The law RowBytes.
-/
import Derived.Test.YtdfdgnnlpopkmaaLB
namespace Go.Proofs.Ytdfdgnnlpopkmaa.rowBytes
open Go.ChangeShapes Go.WideShapes Go.ChangeAt Go.RowKit Go.Sort Go.BigFrame Go.Proofs.Ytdfdgnnlpopkmaa
open Go.ChangeMaps (open_string shut_string)

set_option maxRecDepth 100000 in
set_option maxHeartbeats 2000000 in
theorem walk (va : Value) (l : List Val) (vb : Value) (s : List UInt8) (w : World) (ha : Rd w va l.length (rowCs l)) (hb : Rd w vb s.length (s.map bc)) :
    Calls Try.prog 5 #[va, vb] w fun e w' => e = .returned (.bool true) ∧ Below w.heap.size w w' := by
  obtain ⟨aa, ca, rfl, hna, hma, _, _⟩ := id ha
  obtain ⟨ab, cb, rfl, hnb, hmb, _, _⟩ := id hb
  unfold maxLen at hma hmb
  have HA := Lib.hid ha
  have HBB := Lib.hid hb
  have HB := Lib.hid (Below.refl w.heap.size w)
  clear ha hb
  cases hf : fewR l
  · have HF := Lib.hid hf
    clear hf
    go_enter Try.func5, Try.ntmps5
    go_wp2_with fail
    refine (few1 (HA.out.later HB.out) rfl).mono ?_
    rintro e w1 ⟨rfl, hb1⟩
    rw [HF.out]
    replace HB := Lib.hid (below_then HB.out (by first | exact hb1 | exact below_alloc_then hb1))
    clear hb1
    go_wp2_with fail
    refine (alive_any _).mono ?_
    rintro e w2 ⟨rfl, hb2⟩
    replace HB := Lib.hid (below_then HB.out (by first | exact hb2 | exact below_alloc_then hb2))
    clear hb2
    go_wp2_with fail
    go_ret
    exact ⟨rfl, HB.out⟩
  · have HF := Lib.hid hf
    have h60 := fewR_len hf
    clear hf
    cases h1 : allR l
    · have H1 := Lib.hid h1
      clear h1
      go_enter Try.func5, Try.ntmps5
      go_wp2_with fail
      refine (few1 (HA.out.later HB.out) rfl).mono ?_
      rintro e w3 ⟨rfl, hb3⟩
      rw [HF.out]
      replace HB := Lib.hid (below_then HB.out (by first | exact hb3 | exact below_alloc_then hb3))
      clear hb3
      go_wp2_with fail
      refine (refAll_any _ l _ (HA.out.later HB.out)).mono ?_
      rintro e w4 ⟨rfl, hb4⟩
      rw [H1.out]
      replace HB := Lib.hid (below_then HB.out (by first | exact hb4 | exact below_alloc_then hb4))
      clear hb4
      go_wp2_with fail
      refine (alive_any _).mono ?_
      rintro e w5 ⟨rfl, hb5⟩
      replace HB := Lib.hid (below_then HB.out (by first | exact hb5 | exact below_alloc_then hb5))
      clear hb5
      go_wp2_with fail
      go_ret
      exact ⟨rfl, HB.out⟩
    · have H1 := Lib.hid h1
      have hlen := bytesR_len l h1
      have HG := Lib.hid (getR_back l s h1 (by omega))
      clear h1
      by_cases hbig : 500 < s.length
      · have hE : decide ((500 : Int) < (s.length : Int)) = true := by simp; omega
        go_enter Try.func5, Try.ntmps5
        go_wp2_with fail
        refine (few1 (HA.out.later HB.out) rfl).mono ?_
        rintro e w6 ⟨rfl, hb6⟩
        rw [HF.out]
        replace HB := Lib.hid (below_then HB.out (by first | exact hb6 | exact below_alloc_then hb6))
        clear hb6
        go_wp2_with fail
        refine (refAll_any _ l _ (HA.out.later HB.out)).mono ?_
        rintro e w7 ⟨rfl, hb7⟩
        rw [H1.out]
        replace HB := Lib.hid (below_then HB.out (by first | exact hb7 | exact below_alloc_then hb7))
        clear hb7
        go_wp2_with fail
        refine (alive_any _).mono ?_
        rintro e w8 ⟨rfl, hb8⟩
        replace HB := Lib.hid (below_then HB.out (by first | exact hb8 | exact below_alloc_then hb8))
        clear hb8
        go_wp2_with fail
        go_ret
        exact ⟨rfl, HB.out⟩
      · have hE : decide ((500 : Int) < (s.length : Int)) = false := by simp; omega
        go_enter Try.func5, Try.ntmps5
        go_wp2_with fail
        refine (few1 (HA.out.later HB.out) rfl).mono ?_
        rintro e w9 ⟨rfl, hb9⟩
        rw [HF.out]
        replace HB := Lib.hid (below_then HB.out (by first | exact hb9 | exact below_alloc_then hb9))
        clear hb9
        go_wp2_with fail
        refine (refAll_any _ l _ (HA.out.later HB.out)).mono ?_
        rintro e w10 ⟨rfl, hb10⟩
        rw [H1.out]
        replace HB := Lib.hid (below_then HB.out (by first | exact hb10 | exact below_alloc_then hb10))
        clear hb10
        go_wp2_with fail
        refine (bytesR_any _ l _ (HA.out.later HB.out) (by omega) H1.out).mono ?_
        rintro e w7 ⟨v7, rfl, hown7, hb7⟩
        replace HB := Lib.hid (below_then HB.out hb7)
        have h7 := Rd.of_own hown7
        obtain ⟨a7, c7, rfl, hn7, hm7, _, _⟩ := id h7
        obtain ⟨a8, hsl, hfull⟩ := run_part_full elB h7 (by simp)
        have HF7 := Lib.hid hfull
        have H7 := Lib.hid h7
        have HS := Lib.hid (Src.of_rd (P := Try.prog) (size := 1) (HBB.out.later HB.out) (by simp))
        clear hown7 hb7 h7 hfull
        go_wp2_with (at_builtin; refine wpList_app_full elB ⟨_, elB.ty, fun k h => nomatch h⟩ rfl _ _ rfl rfl rfl HF7.out (by simp) HS.out (by unfold maxLen; omega) (by omega) ?_; intro v8 w8 hrd8 hb8)
        rw [← zs_append] at hrd8
        replace H7 := Lib.hid (H7.out.later hb8)
        replace HB := Lib.hid (below_then HB.out hb8)
        clear HS HF7 hb8
        refine (getR_any _ (bytesR l ++ s) _ (by rw [List.length_append]; exact hrd8) (by rw [List.length_append]; omega)).mono ?_
        rintro e w9 ⟨hb9, ⟨hn, -⟩ | ⟨v9, l9, k9, hg9, rfl, hown9⟩⟩
        · rw [HG.out] at hn; cases hn
        rw [HG.out] at hg9
        simp only [Option.some.injEq, Prod.mk.injEq] at hg9
        obtain ⟨rfl, rfl⟩ := hg9
        replace H7 := Lib.hid (H7.out.later hb9)
        replace HB := Lib.hid (below_then HB.out hb9)
        have H9 := Lib.hid (Rd.of_own hown9)
        clear hb9 hown9 hrd8
        go_wp2_with fail
        refine (alive_any _).mono ?_
        rintro e w10 ⟨rfl, hb10⟩
        replace H7 := Lib.hid (H7.out.later hb10)
        replace H9 := Lib.hid (H9.out.later hb10)
        replace HB := Lib.hid (below_then HB.out hb10)
        clear hb10
        go_wp2_with fail
        refine (refBytesR_any _ l _ (HA.out.later HB.out) (by omega) H1.out).mono ?_
        rintro e w11 ⟨v11, rfl, hown11, hb11⟩
        replace H7 := Lib.hid (H7.out.later hb11)
        replace H9 := Lib.hid (H9.out.later hb11)
        replace HB := Lib.hid (below_then HB.out hb11)
        have H11 := Lib.hid (Rd.of_own hown11)
        clear hb11 hown11
        go_wp2_with fail
        refine (same_true H7.out rfl H11.out rfl rfl).mono ?_
        rintro e w12 ⟨rfl, hb12⟩
        replace H7 := Lib.hid (H7.out.later hb12)
        replace H9 := Lib.hid (H9.out.later hb12)
        replace HB := Lib.hid (below_then HB.out hb12)
        clear hb12
        go_wp2_with fail
        refine (refSameR_any _ _ l l _ (HA.out.later HB.out) H9.out).mono ?_
        rintro e w13 ⟨rfl, hb13⟩
        rw [show sameR l l = true from decide_eq_true rfl]
        replace HB := Lib.hid (below_then HB.out hb13)
        clear hb13
        go_wp2_with fail
        go_ret
        exact ⟨ret_bool (by simp), HB.out⟩

set_option maxRecDepth 100000 in
theorem lifted (os : Os) (started : os.Started) (H : Type) (enc : TypeId × Value → H) :
    ReturnsInHanded {} Try.checked os 5 .any (Rows.rowBytesSpec.pre6 enc Try.prog Try.f5 Rows.rowBytesRow.domain false) (Rows.rowBytesSpec.post enc Try.prog Try.f5 false true false false) := by
  refine returnsInHanded_of_change_sized (C := Try.checked) ownKnob_none started (by kernel_rfl) Try.func5
    (ChangeSpec.witness6 (enc := enc) (C := Try.checked) false ⟨#[], #[.slice none 0 0, .slice none 0 0], []⟩ 8 (by kernel_rfl) (by kernel_rfl) (by kernel_rfl) (by kernel_rfl)) ?_
  intro W base args ds gs before hval0 hW hcnd hsz0 _
  have hval : ∀ (j : Nat) t v, Try.f5.params[j]? = some t → args[j]? = some v → Value.okWide Try.prog W .any base t v := hval0
  have hW' := hW
  obtain ⟨p, q, hA0, hV, rfl, hfz, hnd⟩ := hW
  have hA : DataW.TrodAll enc Try.prog W 0 (fun _ => true) true Try.f5.params.toList args.toList ds p := hA0
  have hsz : (DataW.weightsEach Try.prog (Try.f5.params.toList ++ Rows.rowBytesSpec.plain.varTypes Try.prog) (ds ++ gs)).all (· ≤ reachBytes) = true := hsz0
  rw [Try.params5] at hA hval hsz
  obtain ⟨v0, vs0, d0, ds0, p0, q0, hargs, rfl, rfl, h0, r0r⟩ := trodAll_cons hA
  obtain ⟨v1, vs1, d1, ds1, p1, q1, rfl, rfl, rfl, h1, r1r⟩ := trodAll_cons r0r
  obtain ⟨rfl, rfl, rfl⟩ := trodAll_nil r1r
  obtain rfl : args = #[v0, v1] := by cases args; simp_all
  obtain ⟨rfl, rfl⟩ := trodVars_none hV
  have g0 := sized_at hsz (j := 0) rfl rfl
  have g1 := sized_at hsz (j := 1) rfl rfl
  obtain ⟨y0_0, f0_0⟩ := open_row (hval 0 24 v0 rfl rfl) h0
  obtain ⟨l1, r1⟩ := open_bytes Try.underlying35 Try.underlying5 cellsU8 (hval 1 35 v1 rfl rfl) h1
  refine (walk v0 y0_0 v1 l1 W f0_0 r1).mono fun e W' ⟨he, hg⟩ => ⟨_, he, law_post laidOut (by kernel_rfl) rfl Try.underlying4 rfl rfl hW' hg⟩

theorem over : Rows.rowBytesRow.holds Try.pinned (OpenSpec.ofChange Rows.rowBytesSpec) :=
  OpenClaim.holds_of_wide 5 Try.f5 rfl rfl rfl rfl rfl rfl rfl ⟨rfl, rfl, rfl, rfl, rfl⟩ rfl rfl rfl rfl rfl (by kernel_rfl) Try.func5 (by kernel_rfl)
    (of_decide_eq_true (by kernel_rfl)) (by unfold Func.isWrapper; first | (rw [if_pos (by decide +kernel)]; kernel_rfl) | (rw [if_neg (by decide +kernel)]; exact ⟨rfl, rfl⟩))
    (fun os started H enc _ => lifted os started H enc)

/-- THE STATEMENT. -/
theorem proved : Rows.RowBytesSaid :=
  over
#print axioms proved
end Go.Proofs.Ytdfdgnnlpopkmaa.rowBytes
