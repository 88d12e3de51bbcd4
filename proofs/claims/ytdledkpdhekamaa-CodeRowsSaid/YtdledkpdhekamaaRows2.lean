/-
  The law CodeRows: the call returns true for every row of numbers and all bytes. No condition.
-/
import Derived.Test.YtdledkpdhekamaaC1A
import Derived.Test.YtdledkpdhekamaaLaw
namespace Go.Proofs.Ytdledkpdhekamaa.codeRows
open Go.ChangeShapes Go.WideShapes Go.ChangeAt Go.RowKit Go.Proofs.Ytdledkpdhekamaa
open Go.ChangeMaps (open_string shut_string)

set_option maxRecDepth 100000 in
set_option maxHeartbeats 1000000 in
theorem walk (va : Value) (la : List Int) (v : Value) (l : List UInt8) (w : World) (ha : Rd w va la.length (la.map (Value.int .i64))) (hx : ∀ x ∈ la, -9223372036854775808 ≤ x ∧ x ≤ 9223372036854775807) (_ : la.length * 8 ≤ 140737488351232) (hr : Rd w v l.length (l.map bc)) :
    Calls Try.prog 8 #[va, v] w fun e w' => e = .returned (.bool true) ∧ Below w.heap.size w w' := by
  obtain ⟨ao, c, rfl, hna, hma, _, _⟩ := id hr
  obtain ⟨aa, ca, rfl, hnc, hmc, _, _⟩ := id ha
  unfold maxLen at hma hmc
  have HR := Lib.hid hr
  have HA := Lib.hid ha
  have HX := Lib.hid hx
  clear hr ha hx
  by_cases hbig : 300 < la.length
  · go_enter Try.func8, Try.ntmps8
    go_wp2_with fail
    refine (alive_any _).mono ?_
    rintro e w1 ⟨rfl, hb1⟩
    go_wp2_with fail
    go_ret
    exact ⟨rfl, hb1⟩
  · by_cases hbig2 : 1000 < l.length
    · go_enter Try.func8, Try.ntmps8
      go_wp2_with fail
      refine (alive_any _).mono ?_
      rintro e w1 ⟨rfl, hb1⟩
      go_wp2_with fail
      go_ret
      exact ⟨rfl, hb1⟩
    · have htl := nums_len la
      have HY := Lib.hid (getNums_nums la l (by omega) HX.out)
      have HN := Lib.hid (getNums_short la (by omega) HX.out)
      generalize htx : nums la = T at *
      have HT := Lib.hid htx
      clear htx
      go_enter Try.func8, Try.ntmps8
      go_wp2_with fail
      refine (nums_any _ la _ HA.out (by omega) HX.out).mono ?_
      rintro e w1 ⟨v1, rfl, hown1, hb1⟩
      rw [HT.out] at hown1
      have h1 := Rd.of_own hown1
      obtain ⟨a1, c1, rfl, hn1, hm1, _, _⟩ := id h1
      obtain ⟨a2, hsl, hfull⟩ := run_part_full elB h1 (by simp)
      have HF := Lib.hid hfull
      have H1 := Lib.hid h1
      have hr1 := Lib.hid (HR.out.later hb1)
      clear hown1 h1 hfull
      go_wp2_with (at_builtin; refine wpList_app_full elB ⟨_, elB.ty, fun k h => nomatch h⟩ rfl _ _ rfl rfl rfl HF.out (by simp) (Src.of_rd hr1.out (by simp)) (by unfold maxLen; omega) (by omega) ?_; intro v2 w2 hrd2 hb2)
      rw [← zs_append] at hrd2
      refine (getNums_yes hrd2 (by simp) (by simp; omega) HY.out).mono ?_
      rintro e w3 ⟨v3, rfl, hown3, hb3⟩
      have H3 := Lib.hid (Rd.of_own hown3)
      have hb := below_then (below_then hb1 hb2) hb3
      have H1' := Lib.hid (H1.out.later (below_then hb2 hb3))
      clear hrd2 hsl H1 hb1 hb2 hb3 hown3
      obtain ⟨a3, c3, hsl3, hrd3⟩ := run_part_hi elB H1'.out (by simp) (T.length - 1) (by omega)
      rw [Nat.mul_one, ← List.map_take] at hrd3
      have hsl4 : ∀ W, (Instr.sliceAt 24 (.slice a1 T.length c1) none (some (.int .i64 ((T.length : Int) - 1))) none).run Try.prog W = .ok (.slice a3 (T.length - 1) c3) W := by
        have e : ((T.length : Int) - 1) = ((T.length - 1 : Nat) : Int) := by omega
        intro W
        rw [e]
        exact hsl3 W
      have Hrd3 := Lib.hid hrd3
      clear hsl3 hrd3
      have hmx := run_max_zero Try.prog ((T.length : Int) - 1) (by omega)
      go_wp2_with fail
      clear hmx
      refine (getNums_no' Hrd3.out (by simp) (by simp; omega) HN.out).mono ?_
      rintro e w4 ⟨rfl, hb4⟩
      go_wp2_with fail
      refine (alive_any _).mono ?_
      rintro e w5 ⟨rfl, hb5⟩
      have hb' := below_then hb4 hb5
      have HA' := Lib.hid (HA.out.later (below_then hb hb'))
      go_wp2_with fail
      refine (refNums_any _ la _ HA'.out (by omega) HX.out).mono ?_
      rintro e w6 ⟨v6, rfl, hown6, hb6⟩
      rw [HT.out] at hown6
      have hb6' := below_then hb' hb6
      go_wp2_with fail
      refine (same_true (H1'.out.later hb6') rfl (Rd.of_own hown6) rfl rfl).mono ?_
      rintro e w7 ⟨rfl, hb7⟩
      clear hown6
      go_wp2_with fail
      refine (ints_true (H3.out.later (below_then hb6' hb7)) rfl (HA'.out.later (below_then hb6 hb7)) rfl rfl).mono ?_
      rintro e w8 ⟨rfl, hb8⟩
      go_wp2_with fail
      go_ret
      exact ⟨rfl, below_then (below_then (below_then hb hb6') hb7) hb8⟩

set_option maxRecDepth 100000 in
theorem lifted (os : Os) (started : os.Started) (H : Type) (enc : TypeId × Value → H) :
    ReturnsInHanded {} Try.checked os 8 .any (Rows.codeRowsSpec.pre6 enc Try.prog Try.f8 Rows.codeRowsRow.domain false) (Rows.codeRowsSpec.post enc Try.prog Try.f8 false true false false) := by
  refine returnsInHanded_of_change_sized (C := Try.checked) ownKnob_none started (by kernel_rfl) Try.func8
    (ChangeSpec.witness6 (enc := enc) (C := Try.checked) false ⟨#[], #[.slice none 0 0, .slice none 0 0], []⟩ 8 (by kernel_rfl) (by kernel_rfl) (by kernel_rfl) (by kernel_rfl)) ?_
  intro W base args ds gs before hval0 hW hcnd hsz0 _
  have hval : ∀ (j : Nat) t v, Try.f8.params[j]? = some t → args[j]? = some v → Value.okWide Try.prog W .any base t v := hval0
  have hW' := hW
  obtain ⟨p, q, hA0, hV, rfl, hfz, hnd⟩ := hW
  have hA : DataW.TrodAll enc Try.prog W 0 (fun _ => true) true Try.f8.params.toList args.toList ds p := hA0
  have hsz : (DataW.weightsEach Try.prog (Try.f8.params.toList ++ Rows.codeRowsSpec.plain.varTypes Try.prog) (ds ++ gs)).all (· ≤ reachBytes) = true := hsz0
  rw [Try.params8] at hA hval hsz
  obtain ⟨v0, vs0, d0, ds0, p0, q0, hargs, rfl, rfl, h0, r0r⟩ := trodAll_cons hA
  obtain ⟨v1, vs1, d1, ds1, p1, q1, rfl, rfl, rfl, h1, r1r⟩ := trodAll_cons r0r
  obtain ⟨rfl, rfl, rfl⟩ := trodAll_nil r1r
  obtain rfl : args = #[v0, v1] := by cases args; simp_all
  obtain ⟨rfl, rfl⟩ := trodVars_none hV
  have g0 := sized_at hsz (j := 0) rfl rfl
  have g1 := sized_at hsz (j := 1) rfl rfl
  obtain ⟨l0, r0, x0, n0⟩ := open_int_list Try.underlying32 Try.underlying3 cellsInt bytesInt (hval 0 32 v0 rfl rfl) h0 g0
  obtain ⟨l1, r1⟩ := open_bytes Try.underlying24 Try.underlying5 cellsU8 (hval 1 24 v1 rfl rfl) h1
  refine (walk v0 l0 v1 l1 W r0 x0 n0 r1).mono fun e W' ⟨he, hg⟩ => ⟨_, he, law_post laidOut (by kernel_rfl) rfl Try.underlying4 rfl rfl hW' hg⟩

theorem over : Rows.codeRowsRow.holds Try.pinned (OpenSpec.ofChange Rows.codeRowsSpec) :=
  OpenClaim.holds_of_wide 8 Try.f8 rfl rfl rfl rfl rfl rfl rfl ⟨rfl, rfl, rfl, rfl, rfl⟩ rfl rfl rfl rfl rfl (by kernel_rfl) Try.func8 (by kernel_rfl)
    (of_decide_eq_true (by kernel_rfl)) (by unfold Func.isWrapper; first | (rw [if_pos (by decide +kernel)]; kernel_rfl) | (rw [if_neg (by decide +kernel)]; exact ⟨rfl, rfl⟩))
    (fun os started H enc _ => lifted os started H enc)

/-- THE STATEMENT. -/
theorem proved : Rows.CodeRowsSaid :=
  over
#print axioms proved
end Go.Proofs.Ytdledkpdhekamaa.codeRows
