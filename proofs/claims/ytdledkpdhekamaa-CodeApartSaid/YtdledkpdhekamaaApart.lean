/-
  The law CodeApart: the call returns true for every two numbers. No condition.
-/
import Derived.Test.YtdledkpdhekamaaC1A
import Derived.Test.YtdledkpdhekamaaLaw
namespace Go.Proofs.Ytdledkpdhekamaa.codeApart
open Go.ChangeShapes Go.WideShapes Go.ChangeAt Go.RowKit Go.Proofs.Ytdledkpdhekamaa
open Go.ChangeMaps (open_string shut_string)

set_option maxRecDepth 100000 in
set_option maxHeartbeats 1000000 in
theorem walk (m n : Int) (w : World) (hm : -9223372036854775808 ≤ m ∧ m ≤ 9223372036854775807) (hn : -9223372036854775808 ≤ n ∧ n ≤ 9223372036854775807) :
    Calls Try.prog 9 #[.int .i64 m, .int .i64 n] w fun e w' => e = .returned (.bool true) ∧ Below w.heap.size w w' := by
  have hpm := put_len m
  have hpn := put_len n
  have hlong : ((0 ≤ m ∧ m ≤ n) ∨ (m < 0 ∧ n ≤ m)) → (put m).length ≤ (put n).length := put_longer
  have HL := Lib.hid hlong
  have hsame : (put m == put n) = (m == n) := by
    rw [Bool.eq_iff_iff]
    simp only [beq_iff_eq]
    exact ⟨put_inj hm.1 hm.2 hn.1 hn.2, fun h => by rw [h]⟩
  have HS := Lib.hid hsame
  clear hlong hsame
  go_enter Try.func9, Try.ntmps9
  go_wp2_with fail
  refine (put_any _ _ hm.1 hm.2).mono ?_
  rintro e w1 ⟨v1, rfl, hown1, hb1⟩
  have h1 := Rd.of_own hown1
  go_wp2_with fail
  refine (put_any _ _ hn.1 hn.2).mono ?_
  rintro e w2 ⟨v2, rfl, hown2, hb2⟩
  have h2 := Lib.hid (Rd.of_own hown2)
  have h1' := Lib.hid (h1.later hb2)
  obtain ⟨a1, c1, rfl, hn1, hm1, _, _⟩ := id h1'.out
  obtain ⟨a2, c2, rfl, hn2, hm2, _, _⟩ := id h2.out
  have hb := below_then hb1 hb2
  clear hown1 hown2 h1 hb1 hb2
  have fin : ∀ (u : World), Below w2.heap.size w2 u → Calls Try.prog 12 #[.slice a1 (put m).length c1, .slice a2 (put n).length c2] u fun e w' => e = .returned (.bool (m == n)) ∧ Below u.heap.size u w' := by
    intro u hu
    have := same_at (h1'.out.later hu) rfl (h2.out.later hu) rfl
    rw [HS.out] at this
    exact this
  by_cases hlong : (0 ≤ m ∧ m ≤ n) ∨ (m < 0 ∧ n ≤ m)
  · have hle := HL.out hlong
    rcases hlong with ⟨g1, g2⟩ | ⟨g1, g2⟩
    · have g3 : 0 ≤ n := by omega
      go_wp2_with fail
      refine (alive_any _).mono ?_
      rintro e w3 ⟨rfl, hb3⟩
      go_wp2_with fail
      refine (fin _ hb3).mono ?_
      rintro e w4 ⟨rfl, hb4⟩
      go_wp2_with fail
      go_ret
      exact ⟨by simp, below_then (below_then hb hb3) hb4⟩
    · have g3 : n < 0 := by omega
      go_wp2_with fail
      refine (alive_any _).mono ?_
      rintro e w3 ⟨rfl, hb3⟩
      go_wp2_with fail
      refine (fin _ hb3).mono ?_
      rintro e w4 ⟨rfl, hb4⟩
      go_wp2_with fail
      go_ret
      exact ⟨by simp, below_then (below_then hb hb3) hb4⟩
  · by_cases g1 : 0 ≤ m
    · by_cases g3 : 0 ≤ n
      · have g2 : n < m := by omega
        clear hlong
        go_wp2_with fail
        refine (alive_any _).mono ?_
        rintro e w3 ⟨rfl, hb3⟩
        go_wp2_with fail
        refine (fin _ hb3).mono ?_
        rintro e w4 ⟨rfl, hb4⟩
        go_wp2_with fail
        go_ret
        exact ⟨by simp, below_then (below_then hb hb3) hb4⟩
      · clear hlong
        go_wp2_with fail
        refine (alive_any _).mono ?_
        rintro e w3 ⟨rfl, hb3⟩
        go_wp2_with fail
        refine (fin _ hb3).mono ?_
        rintro e w4 ⟨rfl, hb4⟩
        go_wp2_with fail
        go_ret
        exact ⟨by simp, below_then (below_then hb hb3) hb4⟩
    · by_cases g3 : 0 ≤ n
      · clear hlong
        go_wp2_with fail
        refine (alive_any _).mono ?_
        rintro e w3 ⟨rfl, hb3⟩
        go_wp2_with fail
        refine (fin _ hb3).mono ?_
        rintro e w4 ⟨rfl, hb4⟩
        go_wp2_with fail
        go_ret
        exact ⟨by simp, below_then (below_then hb hb3) hb4⟩
      · have g2 : m < n := by omega
        clear hlong
        go_wp2_with fail
        refine (alive_any _).mono ?_
        rintro e w3 ⟨rfl, hb3⟩
        go_wp2_with fail
        refine (fin _ hb3).mono ?_
        rintro e w4 ⟨rfl, hb4⟩
        go_wp2_with fail
        go_ret
        exact ⟨by simp, below_then (below_then hb hb3) hb4⟩

set_option maxRecDepth 100000 in
theorem lifted (os : Os) (started : os.Started) (H : Type) (enc : TypeId × Value → H) :
    ReturnsInHanded {} Try.checked os 9 .any (Rows.codeApartSpec.pre6 enc Try.prog Try.f9 Rows.codeApartRow.domain false) (Rows.codeApartSpec.post enc Try.prog Try.f9 false true false false) := by
  refine returnsInHanded_of_change_sized (C := Try.checked) ownKnob_none started (by kernel_rfl) Try.func9
    (ChangeSpec.witness6 (enc := enc) (C := Try.checked) false ⟨#[], #[.int .i64 0, .int .i64 0], []⟩ 8 (by kernel_rfl) (by kernel_rfl) (by kernel_rfl) (by kernel_rfl)) ?_
  intro W base args ds gs before hval0 hW hcnd hsz0 _
  have hval : ∀ (j : Nat) t v, Try.f9.params[j]? = some t → args[j]? = some v → Value.okWide Try.prog W .any base t v := hval0
  have hW' := hW
  obtain ⟨p, q, hA0, hV, rfl, hfz, hnd⟩ := hW
  have hA : DataW.TrodAll enc Try.prog W 0 (fun _ => true) true Try.f9.params.toList args.toList ds p := hA0
  have hsz : (DataW.weightsEach Try.prog (Try.f9.params.toList ++ Rows.codeApartSpec.plain.varTypes Try.prog) (ds ++ gs)).all (· ≤ reachBytes) = true := hsz0
  rw [Try.params9] at hA hval hsz
  obtain ⟨v0, vs0, d0, ds0, p0, q0, hargs, rfl, rfl, h0, r0r⟩ := trodAll_cons hA
  obtain ⟨v1, vs1, d1, ds1, p1, q1, rfl, rfl, rfl, h1, r1r⟩ := trodAll_cons r0r
  obtain ⟨rfl, rfl, rfl⟩ := trodAll_nil r1r
  obtain rfl : args = #[v0, v1] := by cases args; simp_all
  obtain ⟨rfl, rfl⟩ := trodVars_none hV
  have g0 := sized_at hsz (j := 0) rfl rfl
  have g1 := sized_at hsz (j := 1) rfl rfl
  obtain ⟨a0, rfl, rfl, rfl, w0⟩ := open_int Try.underlying3 (hval 0 3 v0 rfl rfl) h0
  obtain ⟨a1, rfl, rfl, rfl, w1⟩ := open_int Try.underlying3 (hval 1 3 v1 rfl rfl) h1
  refine (walk a0 a1 W (wf_i64 w0) (wf_i64 w1)).mono fun e W' ⟨he, hg⟩ => ⟨_, he, law_post laidOut (by kernel_rfl) rfl Try.underlying4 rfl rfl hW' hg⟩

theorem over : Rows.codeApartRow.holds Try.pinned (OpenSpec.ofChange Rows.codeApartSpec) :=
  OpenClaim.holds_of_wide 9 Try.f9 rfl rfl rfl rfl rfl rfl rfl ⟨rfl, rfl, rfl, rfl, rfl⟩ rfl rfl rfl rfl rfl (by kernel_rfl) Try.func9 (by kernel_rfl)
    (of_decide_eq_true (by kernel_rfl)) (by unfold Func.isWrapper; first | (rw [if_pos (by decide +kernel)]; kernel_rfl) | (rw [if_neg (by decide +kernel)]; exact ⟨rfl, rfl⟩))
    (fun os started H enc _ => lifted os started H enc)

/-- THE STATEMENT. -/
theorem proved : Rows.CodeApartSaid :=
  over
#print axioms proved
end Go.Proofs.Ytdledkpdhekamaa.codeApart
