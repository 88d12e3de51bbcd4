/-
  The law CodeTexts: the call returns true for every text and all bytes. No condition.
-/
import Derived.Test.YtdledkpdhekamaaC1A
import Derived.Test.YtdledkpdhekamaaLaw
namespace Go.Proofs.Ytdledkpdhekamaa.codeTexts
open Go.ChangeShapes Go.WideShapes Go.ChangeAt Go.RowKit Go.Proofs.Ytdledkpdhekamaa
open Go.ChangeMaps (open_string shut_string)

set_option maxRecDepth 100000 in
set_option maxHeartbeats 1000000 in
theorem walk (s : ByteArray) (v : Value) (l : List UInt8) (w : World) (hs : s.size ≤ maxLen) (hr : Rd w v l.length (l.map bc)) :
    Calls Try.prog 7 #[.string s, v] w fun e w' => e = .returned (.bool true) ∧ Below w.heap.size w w' := by
  obtain ⟨ao, c, rfl, hna, hma, _, _⟩ := id hr
  unfold maxLen at hma hs
  have HR := Lib.hid hr
  clear hr
  by_cases hbig : 1000 < s.size
  · go_enter Try.func7, Try.ntmps7
    go_wp2_with fail
    refine (alive_any _).mono ?_
    rintro e w1 ⟨rfl, hb1⟩
    go_wp2_with fail
    go_ret
    exact ⟨rfl, hb1⟩
  · by_cases hbig2 : 1000 < l.length
    · go_enter Try.func7, Try.ntmps7
      go_wp2_with fail
      refine (alive_any _).mono ?_
      rintro e w1 ⟨rfl, hb1⟩
      go_wp2_with fail
      go_ret
      exact ⟨rfl, hb1⟩
    · have hsl : s.data.toList.length = s.size := Array.length_toList
      have htl : (text s.data.toList).length ≤ 10 + s.size ∧ 1 ≤ (text s.data.toList).length := by
        have := put_len (s.data.toList.length : Int)
        simp only [text, List.length_append]
        omega
      have HY := Lib.hid (getText_text s.data.toList l (by omega))
      have HN := Lib.hid (getText_short s.data.toList (by omega))
      clear hsl
      generalize htx : text s.data.toList = T at *
      have HT := Lib.hid htx
      clear htx
      go_enter Try.func7, Try.ntmps7
      go_wp2_with fail
      refine (text_any _ _ (by omega)).mono ?_
      rintro e w1 ⟨v1, rfl, hown1, hb1⟩
      rw [HT.out] at hown1
      have h1 := Rd.of_own hown1
      obtain ⟨a1, c1, rfl, hn1, hm1, _, _⟩ := id h1
      obtain ⟨a2, hsl, hfull⟩ := run_part_full elB h1 (by simp)
      have HF := Lib.hid hfull
      have H1 := Lib.hid h1
      have hr1 := Lib.hid (HR.out.later hb1)
      clear hown1 h1 hfull
      go_wp2_with (at_builtin; refine wpList_app_full elB ⟨_, elB.ty, fun k h => nomatch h⟩ rfl _ _ rfl rfl rfl HF.out (by simp) (Src.of_rd hr1.out (by simp)) (by unfold maxLen; omega) (by omega) ?_; intro v2 w2 hrd2 hb2)
      rw [← zs_append] at hrd2
      refine (getText_yes hrd2 (by simp) HY.out).mono ?_
      rintro e w3 ⟨rfl, rfl⟩
      rw [str_eq]
      have H1' := Lib.hid (H1.out.later hb2)
      have hb := below_then hb1 hb2
      clear hrd2 hsl H1 hb1 hb2
      obtain ⟨a3, c3, hsl3, hrd3⟩ := run_part_hi elB H1'.out (by simp) (T.length - 1) (by omega)
      rw [Nat.mul_one, ← List.map_take] at hrd3
      have hsl4 : ∀ W, (Instr.sliceAt 24 (.slice a1 T.length c1) none (some (.int .i64 ((T.length : Int) - 1))) none).run Try.prog W = .ok (.slice a3 (T.length - 1) c3) W := by
        have e : ((T.length : Int) - 1) = ((T.length - 1 : Nat) : Int) := by omega
        intro W
        rw [e]
        exact hsl3 W
      have Hrd3 := Lib.hid hrd3
      clear hsl3 hrd3
      have hmx := run_max_zero Try.prog ((T.length : Int) - 1) (by omega)
      go_wp2_with fail
      clear hmx
      refine (getText_no Hrd3.out (by simp) HN.out).mono ?_
      rintro e w4 ⟨rfl, rfl⟩
      go_wp2_with fail
      refine (alive_any _).mono ?_
      rintro e w5 ⟨rfl, hb5⟩
      go_wp2_with fail
      refine (refText_any _ _ (by omega)).mono ?_
      rintro e w6 ⟨v6, rfl, hown6, hb6⟩
      rw [HT.out] at hown6
      go_wp2_with fail
      refine (same_true (H1'.out.later (below_then hb5 hb6)) rfl (Rd.of_own hown6) rfl rfl).mono ?_
      rintro e w7 ⟨rfl, hb7⟩
      clear hown6
      go_wp2_with fail
      go_ret
      exact ⟨rfl, below_then (below_then (below_then hb hb5) hb6) hb7⟩

set_option maxRecDepth 100000 in
theorem lifted (os : Os) (started : os.Started) (H : Type) (enc : TypeId × Value → H) :
    ReturnsInHanded {} Try.checked os 7 .any (Rows.codeTextsSpec.pre6 enc Try.prog Try.f7 Rows.codeTextsRow.domain false) (Rows.codeTextsSpec.post enc Try.prog Try.f7 false true false false) := by
  refine returnsInHanded_of_change_sized (C := Try.checked) ownKnob_none started (by kernel_rfl) Try.func7
    (ChangeSpec.witness6 (enc := enc) (C := Try.checked) false ⟨#[], #[.string .empty, .slice none 0 0], []⟩ 8 (by kernel_rfl) (by kernel_rfl) (by kernel_rfl) (by kernel_rfl)) ?_
  intro W base args ds gs before hval0 hW hcnd hsz0 _
  have hval : ∀ (j : Nat) t v, Try.f7.params[j]? = some t → args[j]? = some v → Value.okWide Try.prog W .any base t v := hval0
  have hW' := hW
  obtain ⟨p, q, hA0, hV, rfl, hfz, hnd⟩ := hW
  have hA : DataW.TrodAll enc Try.prog W 0 (fun _ => true) true Try.f7.params.toList args.toList ds p := hA0
  have hsz : (DataW.weightsEach Try.prog (Try.f7.params.toList ++ Rows.codeTextsSpec.plain.varTypes Try.prog) (ds ++ gs)).all (· ≤ reachBytes) = true := hsz0
  rw [Try.params7] at hA hval hsz
  obtain ⟨v0, vs0, d0, ds0, p0, q0, hargs, rfl, rfl, h0, r0r⟩ := trodAll_cons hA
  obtain ⟨v1, vs1, d1, ds1, p1, q1, rfl, rfl, rfl, h1, r1r⟩ := trodAll_cons r0r
  obtain ⟨rfl, rfl, rfl⟩ := trodAll_nil r1r
  obtain rfl : args = #[v0, v1] := by cases args; simp_all
  obtain ⟨rfl, rfl⟩ := trodVars_none hV
  have g0 := sized_at hsz (j := 0) rfl rfl
  have g1 := sized_at hsz (j := 1) rfl rfl
  obtain ⟨s0, rfl, rfl, rfl, z0⟩ := open_string Try.underlying9 (hval 0 9 v0 rfl rfl) h0
  obtain ⟨l1, r1⟩ := open_bytes Try.underlying24 Try.underlying5 cellsU8 (hval 1 24 v1 rfl rfl) h1
  refine (walk s0 v1 l1 W z0 r1).mono fun e W' ⟨he, hg⟩ => ⟨_, he, law_post laidOut (by kernel_rfl) rfl Try.underlying4 rfl rfl hW' hg⟩

theorem over : Rows.codeTextsRow.holds Try.pinned (OpenSpec.ofChange Rows.codeTextsSpec) :=
  OpenClaim.holds_of_wide 7 Try.f7 rfl rfl rfl rfl rfl rfl rfl ⟨rfl, rfl, rfl, rfl, rfl⟩ rfl rfl rfl rfl rfl (by kernel_rfl) Try.func7 (by kernel_rfl)
    (of_decide_eq_true (by kernel_rfl)) (by unfold Func.isWrapper; first | (rw [if_pos (by decide +kernel)]; kernel_rfl) | (rw [if_neg (by decide +kernel)]; exact ⟨rfl, rfl⟩))
    (fun os started H enc _ => lifted os started H enc)

/-- THE STATEMENT. -/
theorem proved : Rows.CodeTextsSaid :=
  over
#print axioms proved
end Go.Proofs.Ytdledkpdhekamaa.codeTexts
