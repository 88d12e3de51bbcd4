/-
  The law ClockRises.
-/
import Derived.Test.YtboblpmpklofgaaTL
namespace Go.Proofs.Ytboblpmpklofgaa.clockRises
open Go.ChangeShapes Go.WideShapes Go.ChangeAt Go.RowKit Go.Sort Go.BigFrame Go.Proofs.Ytboblpmpklofgaa
open Go.ChangeMaps (open_string shut_string)

theorem next_at (t x : Int) (h0 : 0 ≤ t) (h1 : t ≤ 5000000000) (hx : x ≤ t + 1) : nextT t x = (t + 1, 0) ∧ rightT (t + 1) t = 0 := by
  have hr : rightT (t + 1) t = 0 := by unfold rightT; rw [if_neg (by omega)]
  refine ⟨?_, hr⟩
  have e : (if t + 1 < x then x else t + 1) = t + 1 := if_neg (by omega)
  unfold nextT
  rw [if_neg (by omega), e, hr]
  rfl
theorem next_x (t x : Int) (h0 : 0 ≤ t) (h1 : t ≤ 5000000000) (hx : t + 1 < x) (hx' : x - t ≤ 1048576) : nextT t x = (x, 0) ∧ rightT x t = 0 := by
  have hr : rightT x t = 0 := by unfold rightT; rw [if_neg (by omega)]
  refine ⟨?_, hr⟩
  have e : (if t + 1 < x then x else t + 1) = x := if_pos hx
  unfold nextT
  rw [if_neg (by omega), e, hr]
  rfl
theorem next_no (t x : Int) (h0 : 0 ≤ t) (h1 : t ≤ 5000000000) (hx' : 1048576 < x - t) : nextT t x = (0, 14) := by
  have hr : rightT x t = 14 := by unfold rightT; rw [if_pos (by omega)]
  have e : (if t + 1 < x then x else t + 1) = x := if_pos (by omega)
  unfold nextT
  rw [if_neg (by omega), e, hr]
  rfl

set_option maxRecDepth 100000 in
set_option maxHeartbeats 2000000 in
theorem walk (k : Int) (vl : Value) (l : List Int) (w : World) (hk : 0 ≤ k ∧ k ≤ 4294967295) (h : Rd w vl l.length (l.map (Value.int .i64))) (hx : ∀ x ∈ l, -9223372036854775808 ≤ x ∧ x ≤ 9223372036854775807) (_ : l.length * 8 ≤ 140737488351232) :
    Calls Try.prog 6 #[.int .u32 k, vl] w fun e w' => e = .returned (.bool true) ∧ Below w.heap.size w w' := by
  obtain ⟨ao, c, rfl, hnc, hcm, _, _⟩ := id h
  unfold maxLen at hcm
  have HA := Lib.hid h
  have HX := Lib.hid hx
  obtain ⟨n, hn⟩ : ∃ n, l.length = n := ⟨_, rfl⟩
  rw [hn] at hnc ⊢
  have HLN := Lib.hid hn
  clear h hx hn
  obtain ⟨hk0, hk1⟩ := hk
  by_cases hbig : 60 < n
  · go_enter Try.func6, Try.ntmps6
    go_wp2_with fail
    refine (awake_any _).mono ?_
    rintro e w1 ⟨rfl, hb⟩
    have HB := Lib.hid hb
    clear hb
    go_wp2_with fail
    go_ret
    exact ⟨rfl, HB.out⟩
  · go_enter Try.func6, Try.ntmps6
    go_wp2_with fail
    refine (awake_any _).mono ?_
    rintro e w1 ⟨rfl, hb⟩
    have HB := Lib.hid hb
    clear hb
    go_wp2_with fail
    go_loopw [6, 7] (fun va vi wr => ∃ (j : Nat) (t : Int), j ≤ n ∧ vi = .int .i64 j ∧ va = .int .i64 t ∧ 0 ≤ t ∧ t ≤ 4294967295 + 1048576 * (j : Int) ∧ Hid (Below w.heap.size w wr)) (fun _ vi _ => n - (intOf vi).toNat)
    case atStart => exact ⟨0, k, Nat.zero_le _, rfl, rfl, hk0, by omega, HB.out⟩
    case round =>
      obtain ⟨j, t, hj, rfl, rfl, ht0, ht1, hbw⟩ := hrel
      rename World => wr
      by_cases hlt : j < n
      · have hjl : j < l.length := by have := HLN.out; omega
        obtain ⟨A, x1, c1, _⟩ := rd_one elInts ic (HA.out.later hbw.out) rfl j hjl
        rw [HLN.out] at x1
        have hxb := HX.out _ (List.getElem_mem hjl)
        obtain ⟨x, hx⟩ : ∃ x, l[j] = x := ⟨_, rfl⟩
        rw [hx] at c1 hxb
        obtain ⟨hxb0, hxb1⟩ := hxb
        clear hx
        have ht5 : t ≤ 5000000000 := by omega
        by_cases h1 : x ≤ t + 1
        · obtain ⟨hn, hr⟩ := next_at t x ht0 ht5 h1
          have HR := Lib.hid hr
          clear hr
          have HN := Lib.hid hn
          clear hn
          go_wp2_with fail
          refine (nextT_any t x _).mono ?_
          rintro e w2 ⟨rfl, rfl⟩
          rw [HN.out]
          go_wp2_with fail
          refine (rightT_any (t + 1) t _).mono ?_
          rintro e w2 ⟨rfl, rfl⟩
          rw [HR.out]
          go_wp2_with fail
          go_roundw
          case rel => exact ⟨j + 1, t + 1, by omega, by go_num, rfl, by omega, by omega, hbw⟩
          case measure => simp [intOf]; omega
        · have h1' : t + 1 < x := by omega
          by_cases h2 : x - t ≤ 1048576
          · obtain ⟨hn, hr⟩ := next_x t x ht0 ht5 h1' h2
            have HR := Lib.hid hr
            clear hr
            have HN := Lib.hid hn
            clear hn
            go_wp2_with fail
            refine (nextT_any t x _).mono ?_
            rintro e w2 ⟨rfl, rfl⟩
            rw [HN.out]
            go_wp2_with fail
            refine (rightT_any (x) t _).mono ?_
            rintro e w2 ⟨rfl, rfl⟩
            rw [HR.out]
            go_wp2_with fail
            go_roundw
            case rel => exact ⟨j + 1, x, by omega, by go_num, rfl, by omega, by omega, hbw⟩
            case measure => simp [intOf]; omega
          · have hn := next_no t x ht0 ht5 (by omega)
            have h3 : t + 1048576 < x := by omega
            have HN := Lib.hid hn
            clear hn
            go_wp2_with fail
            refine (nextT_any t x _).mono ?_
            rintro e w2 ⟨rfl, rfl⟩
            rw [HN.out]
            go_wp2_with fail
            go_roundw
            case rel => exact ⟨j + 1, t, by omega, by go_num, rfl, by omega, by omega, hbw⟩
            case measure => simp [intOf]; omega
      · have hjn : j = n := by omega
        clear hjn
        go_wp2_with fail
        go_ret
        exact ⟨rfl, hbw.out⟩

set_option maxRecDepth 100000 in
theorem lifted (os : Os) (started : os.Started) (H : Type) (enc : TypeId × Value → H) :
    ReturnsInHanded {} Try.checked os 6 .any (Rows.clockRisesSpec.pre6 enc Try.prog Try.f6 Rows.clockRisesRow.domain false) (Rows.clockRisesSpec.post enc Try.prog Try.f6 false true false false) := by
  refine returnsInHanded_of_change_sized (C := Try.checked) ownKnob_none started (by kernel_rfl) Try.func6
    (ChangeSpec.witness6 (enc := enc) (C := Try.checked) false ⟨#[], #[.int .u32 0, .slice none 0 0], []⟩ 8 (by kernel_rfl) (by kernel_rfl) (by kernel_rfl) (by kernel_rfl)) ?_
  intro W base args ds gs before hval0 hW hcnd hsz0 _
  have hval : ∀ (j : Nat) t v, Try.f6.params[j]? = some t → args[j]? = some v → Value.okWide Try.prog W .any base t v := hval0
  have hW' := hW
  obtain ⟨p, q, hA0, hV, rfl, hfz, hnd⟩ := hW
  have hA : DataW.TrodAll enc Try.prog W 0 (fun _ => true) true Try.f6.params.toList args.toList ds p := hA0
  have hsz : (DataW.weightsEach Try.prog (Try.f6.params.toList ++ Rows.clockRisesSpec.plain.varTypes Try.prog) (ds ++ gs)).all (· ≤ reachBytes) = true := hsz0
  rw [Try.params6] at hA hval hsz
  obtain ⟨v0, vs0, d0, ds0, p0, q0, hargs, rfl, rfl, h0, r0r⟩ := trodAll_cons hA
  obtain ⟨v1, vs1, d1, ds1, p1, q1, rfl, rfl, rfl, h1, r1r⟩ := trodAll_cons r0r
  obtain ⟨rfl, rfl, rfl⟩ := trodAll_nil r1r
  obtain rfl : args = #[v0, v1] := by cases args; simp_all
  obtain ⟨rfl, rfl⟩ := trodVars_none hV
  have g0 := sized_at hsz (j := 0) rfl rfl
  have g1 := sized_at hsz (j := 1) rfl rfl
  obtain ⟨a0, rfl, rfl, rfl, w0⟩ := open_int Try.underlying37 (hval 0 37 v0 rfl rfl) h0
  obtain ⟨l1, r1, x1, n1⟩ := open_int_list Try.underlying33 Try.underlying3 cellsInt bytesInt (hval 1 33 v1 rfl rfl) h1 g1
  refine (walk a0 v1 l1 W (wf_u32 w0) r1 x1 n1).mono fun e W' ⟨he, hg⟩ => ⟨_, he, law_post laidOut (by kernel_rfl) rfl Try.underlying4 rfl rfl hW' hg⟩

theorem over : Rows.clockRisesRow.holds Try.pinned (OpenSpec.ofChange Rows.clockRisesSpec) :=
  OpenClaim.holds_of_wide 6 Try.f6 rfl rfl rfl rfl rfl rfl rfl ⟨rfl, rfl, rfl, rfl, rfl⟩ rfl rfl rfl rfl rfl (by kernel_rfl) Try.func6 (by kernel_rfl)
    (of_decide_eq_true (by kernel_rfl)) (by unfold Func.isWrapper; first | (rw [if_pos (by decide +kernel)]; kernel_rfl) | (rw [if_neg (by decide +kernel)]; exact ⟨rfl, rfl⟩))
    (fun os started H enc _ => lifted os started H enc)

/-- THE STATEMENT. -/
theorem proved : Rows.ClockRisesSaid :=
  over
#print axioms proved
end Go.Proofs.Ytboblpmpklofgaa.clockRises
