/-
  The law RowEach.
-/
import Derived.Test.YtdfdgnnlpopkmaaLB
namespace Go.Proofs.Ytdfdgnnlpopkmaa.rowEach
open Go.ChangeShapes Go.WideShapes Go.ChangeAt Go.RowKit Go.Sort Go.BigFrame Go.Proofs.Ytdfdgnnlpopkmaa
open Go.ChangeMaps (open_string shut_string)

set_option maxRecDepth 100000 in
set_option maxHeartbeats 2000000 in
theorem walk (va : Value) (l : List Col) (vb : Value) (m : List Val) (w : World) (ha : Rd w va l.length (colsCs l)) (hb : Rd w vb m.length (rowCs m)) :
    Calls Try.prog 9 #[va, vb] w fun e w' => e = .returned (.bool true) ∧ Below w.heap.size w w' := by
  obtain ⟨aa, ca, rfl, hna, hma, _, _⟩ := id ha
  obtain ⟨ab, cb, rfl, hnb, hmb, _, _⟩ := id hb
  unfold maxLen at hma hmb
  have HA := Lib.hid ha
  have HBB := Lib.hid hb
  have HB := Lib.hid (Below.refl w.heap.size w)
  clear ha hb
  by_cases hbig : 60 < l.length
  · have hE : decide ((60 : Int) < (l.length : Int)) = true := by simp; omega
    by_cases hl : l.length = m.length
    · have hQ : ((l.length : Int) == (m.length : Int)) = true := by simp; omega
      have hQ' : ((l.length : Int) != (m.length : Int)) = false := by simp; omega
      go_enter Try.func9, Try.ntmps9
      go_wp2_with fail
      refine (alive_any _).mono ?_
      rintro e w1 ⟨rfl, hb1⟩
      replace HB := Lib.hid (below_then HB.out (by first | exact hb1 | exact below_alloc_then hb1))
      clear hb1
      go_wp2_with fail
      go_ret
      exact ⟨rfl, HB.out⟩
    · have hQ : ((l.length : Int) == (m.length : Int)) = false := by simp; omega
      have hQ' : ((l.length : Int) != (m.length : Int)) = true := by simp; omega
      go_enter Try.func9, Try.ntmps9
      go_wp2_with fail
      refine (alive_any _).mono ?_
      rintro e w2 ⟨rfl, hb2⟩
      replace HB := Lib.hid (below_then HB.out (by first | exact hb2 | exact below_alloc_then hb2))
      clear hb2
      go_wp2_with fail
      go_ret
      exact ⟨rfl, HB.out⟩
  · have hE : decide ((60 : Int) < (l.length : Int)) = false := by simp; omega
    cases hf : fewR m
    · have HF := Lib.hid hf
      clear hf
      by_cases hl : l.length = m.length
      · have hQ : ((l.length : Int) == (m.length : Int)) = true := by simp; omega
        have hQ' : ((l.length : Int) != (m.length : Int)) = false := by simp; omega
        go_enter Try.func9, Try.ntmps9
        go_wp2_with fail
        refine (few1 (HBB.out.later HB.out) rfl).mono ?_
        rintro e w3 ⟨rfl, hb3⟩
        rw [HF.out]
        replace HB := Lib.hid (below_then HB.out (by first | exact hb3 | exact below_alloc_then hb3))
        clear hb3
        go_wp2_with fail
        refine (alive_any _).mono ?_
        rintro e w4 ⟨rfl, hb4⟩
        replace HB := Lib.hid (below_then HB.out (by first | exact hb4 | exact below_alloc_then hb4))
        clear hb4
        go_wp2_with fail
        go_ret
        exact ⟨rfl, HB.out⟩
      · have hQ : ((l.length : Int) == (m.length : Int)) = false := by simp; omega
        have hQ' : ((l.length : Int) != (m.length : Int)) = true := by simp; omega
        go_enter Try.func9, Try.ntmps9
        go_wp2_with fail
        refine (few1 (HBB.out.later HB.out) rfl).mono ?_
        rintro e w5 ⟨rfl, hb5⟩
        rw [HF.out]
        replace HB := Lib.hid (below_then HB.out (by first | exact hb5 | exact below_alloc_then hb5))
        clear hb5
        go_wp2_with fail
        refine (alive_any _).mono ?_
        rintro e w6 ⟨rfl, hb6⟩
        replace HB := Lib.hid (below_then HB.out (by first | exact hb6 | exact below_alloc_then hb6))
        clear hb6
        go_wp2_with fail
        refine (few1 (HBB.out.later HB.out) rfl).mono ?_
        rintro e w7 ⟨rfl, hb7⟩
        rw [HF.out]
        replace HB := Lib.hid (below_then HB.out (by first | exact hb7 | exact below_alloc_then hb7))
        clear hb7
        go_wp2_with fail
        go_ret
        exact ⟨rfl, HB.out⟩
    · have HF := Lib.hid hf
      clear hf
      by_cases hl : l.length = m.length
      · have hQ : ((l.length : Int) == (m.length : Int)) = true := by simp; omega
        have hQ' : ((l.length : Int) != (m.length : Int)) = false := by simp; omega
        have HL := Lib.hid hl
        have hle : m.length ≤ l.length := by omega
        clear hl hbig
        go_enter Try.func9, Try.ntmps9
        go_wp2_with fail
        refine (few1 (HBB.out.later HB.out) rfl).mono ?_
        rintro e w8 ⟨rfl, hb8⟩
        rw [HF.out]
        replace HB := Lib.hid (below_then HB.out (by first | exact hb8 | exact below_alloc_then hb8))
        clear hb8
        go_wp2_with fail
        go_loopw [5, 51] (fun e i wr => ∃ (k : Nat) (x : Int), k ≤ m.length ∧ i = .int .i64 k ∧ e = .int .i64 x ∧ Hid (x = firstC (l.take k) (m.take k)) ∧ Below w.heap.size w wr) (fun _ i _ => m.length - (intOf i).toNat)
        case atStart => exact ⟨0, 0, Nat.zero_le _, rfl, rfl, rfl, HB.out⟩
        case round =>
          obtain ⟨k, x, hk, rfl, rfl, hx, hbw⟩ := hrel
          rename World => wr
          clear HB
          have HB := Lib.hid hbw
          by_cases hlt : k < m.length
          · have hlt' : k < l.length := by omega
            obtain ⟨a1, c1, hs1, hr1⟩ := run_part elC (HA.out.later hbw) (colsCs_length l) k (k + 1) (by omega) (by omega)
            obtain ⟨a2, c2, hs2, hr2⟩ := run_part elR (HBB.out.later hbw) (rowCs_length m) k (k + 1) (by omega) (by omega)
            rw [show k + 1 - k = 1 by omega] at hs1 hr1 hs2 hr2
            rw [colsCs_one hlt'] at hr1
            rw [rowCs_one hlt] at hr2
            have hs1' : ∀ W, (Instr.sliceAt 22 (.slice aa l.length ca) (some (.int .i64 (k : Int))) (some (.int .i64 ((k : Int) + 1))) none).run Try.prog W = .ok (.slice a1 1 c1) W := hs1
            have hs2' : ∀ W, (Instr.sliceAt 24 (.slice ab m.length cb) (some (.int .i64 (k : Int))) (some (.int .i64 ((k : Int) + 1))) none).run Try.prog W = .ok (.slice a2 1 c2) W := hs2
            have Hr1 := Lib.hid hr1
            have Hr2 := Lib.hid hr2
            have hwrap : IntKind.i64.wrap ((k : Int) + 1) = (k : Int) + 1 := by rw [IntWalk.i64_in] <;> omega
            have HSN := Lib.hid (firstC_snoc hlt' hlt)
            clear hs1 hs2 hr1 hr2 hbw
            have cS : ∀ d os, Calls Try.prog 14 #[.slice a1 1 c1, .slice a2 1 c2] (grow (redrawn wr d) os) fun e w'' => e = .returned (.int .i64 (rightR [l[k]] [m[k]])) ∧ ∃ p : Regrown, w'' = grow (redrawn wr p.d) p.os := fun d os => Calls.regrown_of (rightR_any _ _ [l[k]] [m[k]] _ (Hr1.out.later (below_regrown wr d os)) (Hr2.out.later (below_regrown wr d os)))
            rw [rightR_one] at cS
            generalize checkC l[k] m[k] = q at cS HSN
            go_wp2_with fail
            refine wp_region_quiet_below (by kernel_rfl) (by kernel_rfl) ?_
            repeat (go_big_quiet_step (first | exact cS _ _))
            refine wpQuiet_nil ?_
            intro _ hw'
            obtain ⟨⟨dq, osq⟩, hw''⟩ := hw'
            subst hw''
            clear cS
            have hb2 := below_regrown wr dq osq
            generalize grow (redrawn wr dq) osq = w2 at *
            by_cases h0 : x = 0
            · have hz : (x == 0) = true := by simp [h0]
              have HN : Hid (q = firstC (l.take (k + 1)) (m.take (k + 1))) := by have := HSN.out; rw [← hx.out, if_pos h0] at this; exact this.symm
              clear h0
              go_wp2_with fail
              go_roundw
              case rel => exact ⟨k + 1, q, by omega, by go_num, rfl, HN.out, below_then HB.out hb2⟩
              case measure => simp [intOf]; omega
            · have hz : (x == 0) = false := by rw [beq_eq_false_iff_ne]; exact h0
              have HN : Hid (x = firstC (l.take (k + 1)) (m.take (k + 1))) := by have := HSN.out; rw [← hx.out, if_neg h0] at this; exact this.symm
              clear h0
              go_wp2_with fail
              go_roundw
              case rel => exact ⟨k + 1, x, by omega, by go_num, rfl, HN.out, below_then HB.out hb2⟩
              case measure => simp [intOf]; omega
          · have HX : Hid (x = rightR l m) := by
              have := hx.out
              rw [show k = m.length by omega, List.take_length, ← HL.out, List.take_length] at this
              show x = rightR l m
              unfold rightR; rw [if_pos HL.out]; exact this
            clear hbw
            go_wp2_with fail
            refine (alive_any _).mono ?_
            rintro e w9 ⟨rfl, hb9⟩
            replace HB := Lib.hid (below_then HB.out (by first | exact hb9 | exact below_alloc_then hb9))
            clear hb9
            go_wp2_with fail
            refine (rightR_any _ _ l m _ (HA.out.later HB.out) (HBB.out.later HB.out)).mono ?_
            rintro e w10 ⟨rfl, hb10⟩
            replace HB := Lib.hid (below_then HB.out (by first | exact hb10 | exact below_alloc_then hb10))
            clear hb10
            go_wp2_with fail
            go_ret
            exact ⟨ret_bool (by simp [HX.out]), HB.out⟩
      · have hQ : ((l.length : Int) == (m.length : Int)) = false := by simp; omega
        have hQ' : ((l.length : Int) != (m.length : Int)) = true := by simp; omega
        have H1 : Hid (rightR l m = 1) := if_neg hl
        go_enter Try.func9, Try.ntmps9
        go_wp2_with fail
        refine (few1 (HBB.out.later HB.out) rfl).mono ?_
        rintro e w11 ⟨rfl, hb11⟩
        rw [HF.out]
        replace HB := Lib.hid (below_then HB.out (by first | exact hb11 | exact below_alloc_then hb11))
        clear hb11
        go_wp2_with fail
        refine (alive_any _).mono ?_
        rintro e w12 ⟨rfl, hb12⟩
        replace HB := Lib.hid (below_then HB.out (by first | exact hb12 | exact below_alloc_then hb12))
        clear hb12
        go_wp2_with fail
        refine (few1 (HBB.out.later HB.out) rfl).mono ?_
        rintro e w13 ⟨rfl, hb13⟩
        rw [HF.out]
        replace HB := Lib.hid (below_then HB.out (by first | exact hb13 | exact below_alloc_then hb13))
        clear hb13
        go_wp2_with fail
        refine (rightR_any _ _ l m _ (HA.out.later HB.out) (HBB.out.later HB.out)).mono ?_
        rintro e w14 ⟨rfl, hb14⟩
        rw [H1.out]
        replace HB := Lib.hid (below_then HB.out (by first | exact hb14 | exact below_alloc_then hb14))
        clear hb14
        go_wp2_with fail
        go_ret
        exact ⟨rfl, HB.out⟩

set_option maxRecDepth 100000 in
theorem lifted (os : Os) (started : os.Started) (H : Type) (enc : TypeId × Value → H) :
    ReturnsInHanded {} Try.checked os 9 .any (Rows.rowEachSpec.pre6 enc Try.prog Try.f9 Rows.rowEachRow.domain false) (Rows.rowEachSpec.post enc Try.prog Try.f9 false true false false) := by
  refine returnsInHanded_of_change_sized (C := Try.checked) ownKnob_none started (by kernel_rfl) Try.func9
    (ChangeSpec.witness6 (enc := enc) (C := Try.checked) false ⟨#[], #[.slice none 0 0, .slice none 0 0], []⟩ 8 (by kernel_rfl) (by kernel_rfl) (by kernel_rfl) (by kernel_rfl)) ?_
  intro W base args ds gs before hval0 hW hcnd hsz0 _
  have hval : ∀ (j : Nat) t v, Try.f9.params[j]? = some t → args[j]? = some v → Value.okWide Try.prog W .any base t v := hval0
  have hW' := hW
  obtain ⟨p, q, hA0, hV, rfl, hfz, hnd⟩ := hW
  have hA : DataW.TrodAll enc Try.prog W 0 (fun _ => true) true Try.f9.params.toList args.toList ds p := hA0
  have hsz : (DataW.weightsEach Try.prog (Try.f9.params.toList ++ Rows.rowEachSpec.plain.varTypes Try.prog) (ds ++ gs)).all (· ≤ reachBytes) = true := hsz0
  rw [Try.params9] at hA hval hsz
  obtain ⟨v0, vs0, d0, ds0, p0, q0, hargs, rfl, rfl, h0, r0r⟩ := trodAll_cons hA
  obtain ⟨v1, vs1, d1, ds1, p1, q1, rfl, rfl, rfl, h1, r1r⟩ := trodAll_cons r0r
  obtain ⟨rfl, rfl, rfl⟩ := trodAll_nil r1r
  obtain rfl : args = #[v0, v1] := by cases args; simp_all
  obtain ⟨rfl, rfl⟩ := trodVars_none hV
  have g0 := sized_at hsz (j := 0) rfl rfl
  have g1 := sized_at hsz (j := 1) rfl rfl
  obtain ⟨y0_0, f0_0⟩ := open_cols (hval 0 22 v0 rfl rfl) h0
  obtain ⟨y1_0, f1_0⟩ := open_row (hval 1 24 v1 rfl rfl) h1
  refine (walk v0 y0_0 v1 y1_0 W f0_0 f1_0).mono fun e W' ⟨he, hg⟩ => ⟨_, he, law_post laidOut (by kernel_rfl) rfl Try.underlying4 rfl rfl hW' hg⟩

theorem over : Rows.rowEachRow.holds Try.pinned (OpenSpec.ofChange Rows.rowEachSpec) :=
  OpenClaim.holds_of_wide 9 Try.f9 rfl rfl rfl rfl rfl rfl rfl ⟨rfl, rfl, rfl, rfl, rfl⟩ rfl rfl rfl rfl rfl (by kernel_rfl) Try.func9 (by kernel_rfl)
    (of_decide_eq_true (by kernel_rfl)) (by unfold Func.isWrapper; first | (rw [if_pos (by decide +kernel)]; kernel_rfl) | (rw [if_neg (by decide +kernel)]; exact ⟨rfl, rfl⟩))
    (fun os started H enc _ => lifted os started H enc)

/-- THE STATEMENT. -/
theorem proved : Rows.RowEachSaid :=
  over
#print axioms proved
end Go.Proofs.Ytdfdgnnlpopkmaa.rowEach
