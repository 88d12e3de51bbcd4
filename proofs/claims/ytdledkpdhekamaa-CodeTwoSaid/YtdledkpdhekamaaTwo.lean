/-
  The law CodeTwo: the call returns true for every two rows of numbers. No condition.
-/
import Derived.Test.YtdledkpdhekamaaC1A
import Derived.Test.YtdledkpdhekamaaLaw
namespace Go.Proofs.Ytdledkpdhekamaa.codeTwo
open Go.ChangeShapes Go.WideShapes Go.ChangeAt Go.RowKit Go.Proofs.Ytdledkpdhekamaa
open Go.ChangeMaps (open_string shut_string)

set_option maxRecDepth 100000 in
set_option maxHeartbeats 1000000 in
theorem walk (va : Value) (la : List Int) (vb : Value) (lb : List Int) (w : World) (ha : Rd w va la.length (la.map (Value.int .i64))) (hx : ∀ x ∈ la, -9223372036854775808 ≤ x ∧ x ≤ 9223372036854775807) (hna : la.length * 8 ≤ 140737488351232)
    (hb0 : Rd w vb lb.length (lb.map (Value.int .i64))) (hy : ∀ x ∈ lb, -9223372036854775808 ≤ x ∧ x ≤ 9223372036854775807) (hnb : lb.length * 8 ≤ 140737488351232) :
    Calls Try.prog 10 #[va, vb] w fun e w' => e = .returned (.bool true) ∧ Below w.heap.size w w' := by
  obtain ⟨ab, cb, rfl, hnb2, hmb, _, _⟩ := id hb0
  obtain ⟨aa, ca, rfl, hnc, hmc, _, _⟩ := id ha
  have HB := Lib.hid hb0
  have HA := Lib.hid ha
  have HX := Lib.hid hx
  have HY := Lib.hid hy
  clear hb0 ha hx hy hmb hmc
  by_cases hbig : 300 < la.length + lb.length
  · have hbig' : (300 : Int) < (la.length : Int) + (lb.length : Int) := by omega
    go_enter Try.func10, Try.ntmps10
    go_wp2_with fail
    refine (alive_any _).mono ?_
    rintro e w1 ⟨rfl, hb1⟩
    go_wp2_with fail
    go_ret
    exact ⟨rfl, hb1⟩
  · have hla := nums_len la
    have hlb := nums_len lb
    have HG := Lib.hid (getNums_nums la (nums lb) (by omega) HX.out)
    have HH := Lib.hid (getNums_nums lb [] (by omega) HY.out)
    generalize htx : nums la = T at *
    have HT := Lib.hid htx
    clear htx
    generalize htx : nums lb = U at *
    have HU := Lib.hid htx
    clear htx
    go_enter Try.func10, Try.ntmps10
    go_wp2_with fail
    refine (nums_any _ la _ HA.out (by omega) HX.out).mono ?_
    rintro e w1 ⟨v1, rfl, hown1, hb1⟩
    rw [HT.out] at hown1
    go_wp2_with fail
    refine (nums_any _ lb _ (HB.out.later hb1) (by omega) HY.out).mono ?_
    rintro e w2 ⟨v2, rfl, hown2, hb2⟩
    rw [HU.out] at hown2
    have hown1' := own_later hown1 hb2
    have hb := below_then hb1 hb2
    clear hown1
    go_wp2_with (at_builtin; refine wpList_app elB ⟨_, elB.ty, fun k h => nomatch h⟩ rfl _ _ rfl rfl rfl hown1' (Src.of_rd (Rd.of_own hown2) (by simp)) (oneCell_bytes _) (by unfold maxLen; omega) (by omega) hb.size ?_; intro v3 w3 hown3 hgrow3 hblk3)
    have hb3 := below_own hb hown1' (Nat.le_refl _) hgrow3
    have h3 := Rd.of_own hown3
    rw [← zs_append] at h3
    clear hown1' hown2 hown3 hgrow3 hblk3 hb hb1 hb2
    obtain ⟨a3, c3, rfl, hn3, hm3, _, _⟩ := id h3
    have H3 := Lib.hid h3
    clear h3
    refine (getNums_yes H3.out (by simp) (by simp; omega) HG.out).mono ?_
    rintro e w4 ⟨v4, rfl, hown4, hb4⟩
    have H4 := Lib.hid (Rd.of_own hown4)
    clear hown4
    have H3' := Lib.hid (H3.out.later hb4)
    have hb := below_then hb3 hb4
    obtain ⟨a5, c5, hsl5, hrd5⟩ := run_part_lo elB H3'.out (by simp) T.length (by omega)
    rw [Nat.mul_one, ← List.map_drop] at hrd5
    have e5 : T.length + U.length - T.length = U.length := by omega
    rw [e5] at hsl5 hrd5
    have e6 : (T ++ U).drop T.length = U ++ [] := by simp
    rw [e6] at hrd5
    have H5 := Lib.hid hrd5
    clear hrd5 e5 e6
    go_wp2_with fail
    refine (getNums_yes H5.out (by simp) (by simp; omega) HH.out).mono ?_
    rintro e w6 ⟨v6, rfl, hown6, hb6⟩
    have H6 := Lib.hid (Rd.of_own hown6)
    clear hown6
    go_wp2_with fail
    refine (alive_any _).mono ?_
    rintro e w7 ⟨rfl, hb7⟩
    have hb67 := below_then hb6 hb7
    have hbw7 := below_then hb hb67
    go_wp2_with fail
    refine (ints_true (H4.out.later hb67) rfl (HA.out.later hbw7) rfl rfl).mono ?_
    rintro e w8 ⟨rfl, hb8⟩
    go_wp2_with fail
    refine (ints_true (H6.out.later (below_then hb7 hb8)) rfl (HB.out.later (below_then hbw7 hb8)) rfl rfl).mono ?_
    rintro e w9 ⟨rfl, hb9⟩
    go_wp2_with fail
    go_ret
    exact ⟨ret_bool (by simp), below_then (below_then hbw7 hb8) hb9⟩

set_option maxRecDepth 100000 in
theorem lifted (os : Os) (started : os.Started) (H : Type) (enc : TypeId × Value → H) :
    ReturnsInHanded {} Try.checked os 10 .any (Rows.codeTwoSpec.pre6 enc Try.prog Try.f10 Rows.codeTwoRow.domain false) (Rows.codeTwoSpec.post enc Try.prog Try.f10 false true false false) := by
  refine returnsInHanded_of_change_sized (C := Try.checked) ownKnob_none started (by kernel_rfl) Try.func10
    (ChangeSpec.witness6 (enc := enc) (C := Try.checked) false ⟨#[], #[.slice none 0 0, .slice none 0 0], []⟩ 8 (by kernel_rfl) (by kernel_rfl) (by kernel_rfl) (by kernel_rfl)) ?_
  intro W base args ds gs before hval0 hW hcnd hsz0 _
  have hval : ∀ (j : Nat) t v, Try.f10.params[j]? = some t → args[j]? = some v → Value.okWide Try.prog W .any base t v := hval0
  have hW' := hW
  obtain ⟨p, q, hA0, hV, rfl, hfz, hnd⟩ := hW
  have hA : DataW.TrodAll enc Try.prog W 0 (fun _ => true) true Try.f10.params.toList args.toList ds p := hA0
  have hsz : (DataW.weightsEach Try.prog (Try.f10.params.toList ++ Rows.codeTwoSpec.plain.varTypes Try.prog) (ds ++ gs)).all (· ≤ reachBytes) = true := hsz0
  rw [Try.params10] at hA hval hsz
  obtain ⟨v0, vs0, d0, ds0, p0, q0, hargs, rfl, rfl, h0, r0r⟩ := trodAll_cons hA
  obtain ⟨v1, vs1, d1, ds1, p1, q1, rfl, rfl, rfl, h1, r1r⟩ := trodAll_cons r0r
  obtain ⟨rfl, rfl, rfl⟩ := trodAll_nil r1r
  obtain rfl : args = #[v0, v1] := by cases args; simp_all
  obtain ⟨rfl, rfl⟩ := trodVars_none hV
  have g0 := sized_at hsz (j := 0) rfl rfl
  have g1 := sized_at hsz (j := 1) rfl rfl
  obtain ⟨l0, r0, x0, n0⟩ := open_int_list Try.underlying32 Try.underlying3 cellsInt bytesInt (hval 0 32 v0 rfl rfl) h0 g0
  obtain ⟨l1, r1, x1, n1⟩ := open_int_list Try.underlying32 Try.underlying3 cellsInt bytesInt (hval 1 32 v1 rfl rfl) h1 g1
  refine (walk v0 l0 v1 l1 W r0 x0 n0 r1 x1 n1).mono fun e W' ⟨he, hg⟩ => ⟨_, he, law_post laidOut (by kernel_rfl) rfl Try.underlying4 rfl rfl hW' hg⟩

theorem over : Rows.codeTwoRow.holds Try.pinned (OpenSpec.ofChange Rows.codeTwoSpec) :=
  OpenClaim.holds_of_wide 10 Try.f10 rfl rfl rfl rfl rfl rfl rfl ⟨rfl, rfl, rfl, rfl, rfl⟩ rfl rfl rfl rfl rfl (by kernel_rfl) Try.func10 (by kernel_rfl)
    (of_decide_eq_true (by kernel_rfl)) (by unfold Func.isWrapper; first | (rw [if_pos (by decide +kernel)]; kernel_rfl) | (rw [if_neg (by decide +kernel)]; exact ⟨rfl, rfl⟩))
    (fun os started H enc _ => lifted os started H enc)

/-- THE STATEMENT. -/
theorem proved : Rows.CodeTwoSaid :=
  over
#print axioms proved
end Go.Proofs.Ytdledkpdhekamaa.codeTwo
