/-
  The law CodeBack: the call returns true for every number and all bytes. No condition.
-/
import Derived.Test.YtdledkpdhekamaaC1A
import Derived.Test.YtdledkpdhekamaaLaw
namespace Go.Proofs.Ytdledkpdhekamaa.codeBack
open Go.ChangeShapes Go.WideShapes Go.ChangeAt Go.RowKit Go.Proofs.Ytdledkpdhekamaa
open Go.ChangeMaps (open_string shut_string)

set_option maxRecDepth 100000 in
set_option maxHeartbeats 1000000 in
theorem walk (n : Int) (v : Value) (l : List UInt8) (w : World) (hn : -9223372036854775808 ≤ n ∧ n ≤ 9223372036854775807) (hr : Rd w v l.length (l.map bc)) :
    Calls Try.prog 5 #[.int .i64 n, v] w fun e w' => e = .returned (.bool true) ∧ Below w.heap.size w w' := by
  obtain ⟨ao, c, rfl, hna, hma, _, _⟩ := id hr
  unfold maxLen at hma
  have HR := Lib.hid hr
  clear hr
  by_cases hbig : 1000 < l.length
  · go_enter Try.func5, Try.ntmps5
    go_wp2_with fail
    refine (alive_any _).mono ?_
    rintro e w1 ⟨rfl, hb1⟩
    go_wp2_with fail
    go_ret
    exact ⟨rfl, hb1⟩
  · have hpl := put_len n
    go_enter Try.func5, Try.ntmps5
    go_wp2_with fail
    refine (put_any _ _ hn.1 hn.2).mono ?_
    rintro e w1 ⟨v1, rfl, hown1, hb1⟩
    have h1 := Rd.of_own hown1
    obtain ⟨a1, c1, rfl, hn1, hm1, _, _⟩ := id h1
    obtain ⟨a2, hsl, hfull⟩ := run_part_full elB h1 (by simp)
    have HF := Lib.hid hfull
    have hr1 := Lib.hid (HR.out.later hb1)
    clear hown1 h1 hfull
    go_wp2_with (at_builtin; refine wpList_app_full elB ⟨_, elB.ty, fun k h => nomatch h⟩ rfl _ _ rfl rfl rfl HF.out (by simp) (Src.of_rd hr1.out (by simp)) (by unfold maxLen; omega) (by omega) ?_; intro v2 w2 hrd2 hb2)
    rw [← zs_append] at hrd2
    refine (get_yes hrd2 (by simp) (get_put n hn.1 hn.2 l)).mono ?_
    rintro e w3 ⟨rfl, rfl⟩
    clear hrd2
    go_wp2_with fail
    refine (alive_any _).mono ?_
    rintro e w4 ⟨rfl, hb4⟩
    go_wp2_with fail
    go_ret
    exact ⟨ret_bool (decide_eq_true (by omega)), below_then (below_then hb1 hb2) hb4⟩

set_option maxRecDepth 100000 in
theorem lifted (os : Os) (started : os.Started) (H : Type) (enc : TypeId × Value → H) :
    ReturnsInHanded {} Try.checked os 5 .any (Rows.codeBackSpec.pre6 enc Try.prog Try.f5 Rows.codeBackRow.domain false) (Rows.codeBackSpec.post enc Try.prog Try.f5 false true false false) := by
  refine returnsInHanded_of_change_sized (C := Try.checked) ownKnob_none started (by kernel_rfl) Try.func5
    (ChangeSpec.witness6 (enc := enc) (C := Try.checked) false ⟨#[], #[.int .i64 0, .slice none 0 0], []⟩ 8 (by kernel_rfl) (by kernel_rfl) (by kernel_rfl) (by kernel_rfl)) ?_
  intro W base args ds gs before hval0 hW hcnd hsz0 _
  have hval : ∀ (j : Nat) t v, Try.f5.params[j]? = some t → args[j]? = some v → Value.okWide Try.prog W .any base t v := hval0
  have hW' := hW
  obtain ⟨p, q, hA0, hV, rfl, hfz, hnd⟩ := hW
  have hA : DataW.TrodAll enc Try.prog W 0 (fun _ => true) true Try.f5.params.toList args.toList ds p := hA0
  have hsz : (DataW.weightsEach Try.prog (Try.f5.params.toList ++ Rows.codeBackSpec.plain.varTypes Try.prog) (ds ++ gs)).all (· ≤ reachBytes) = true := hsz0
  rw [Try.params5] at hA hval hsz
  obtain ⟨v0, vs0, d0, ds0, p0, q0, hargs, rfl, rfl, h0, r0r⟩ := trodAll_cons hA
  obtain ⟨v1, vs1, d1, ds1, p1, q1, rfl, rfl, rfl, h1, r1r⟩ := trodAll_cons r0r
  obtain ⟨rfl, rfl, rfl⟩ := trodAll_nil r1r
  obtain rfl : args = #[v0, v1] := by cases args; simp_all
  obtain ⟨rfl, rfl⟩ := trodVars_none hV
  have g0 := sized_at hsz (j := 0) rfl rfl
  have g1 := sized_at hsz (j := 1) rfl rfl
  obtain ⟨a0, rfl, rfl, rfl, w0⟩ := open_int Try.underlying3 (hval 0 3 v0 rfl rfl) h0
  obtain ⟨l1, r1⟩ := open_bytes Try.underlying24 Try.underlying5 cellsU8 (hval 1 24 v1 rfl rfl) h1
  refine (walk a0 v1 l1 W (wf_i64 w0) r1).mono fun e W' ⟨he, hg⟩ => ⟨_, he, law_post laidOut (by kernel_rfl) rfl Try.underlying4 rfl rfl hW' hg⟩

theorem over : Rows.codeBackRow.holds Try.pinned (OpenSpec.ofChange Rows.codeBackSpec) :=
  OpenClaim.holds_of_wide 5 Try.f5 rfl rfl rfl rfl rfl rfl rfl ⟨rfl, rfl, rfl, rfl, rfl⟩ rfl rfl rfl rfl rfl (by kernel_rfl) Try.func5 (by kernel_rfl)
    (of_decide_eq_true (by kernel_rfl)) (by unfold Func.isWrapper; first | (rw [if_pos (by decide +kernel)]; kernel_rfl) | (rw [if_neg (by decide +kernel)]; exact ⟨rfl, rfl⟩))
    (fun os started H enc _ => lifted os started H enc)

/-- THE STATEMENT. -/
theorem proved : Rows.CodeBackSaid :=
  over
#print axioms proved
end Go.Proofs.Ytdledkpdhekamaa.codeBack
