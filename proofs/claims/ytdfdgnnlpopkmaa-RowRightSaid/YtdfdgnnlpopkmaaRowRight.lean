/-
  The law RowRight.
-/
import Derived.Test.YtdfdgnnlpopkmaaLB
namespace Go.Proofs.Ytdfdgnnlpopkmaa.rowRight
open Go.ChangeShapes Go.WideShapes Go.ChangeAt Go.RowKit Go.Sort Go.BigFrame Go.Proofs.Ytdfdgnnlpopkmaa
open Go.ChangeMaps (open_string shut_string)

set_option maxRecDepth 100000 in
set_option maxHeartbeats 2000000 in
theorem walk (va : Value) (l : List Col) (vb : Value) (m : List Val) (w : World) (ha : Rd w va l.length (colsCs l)) (hb : Rd w vb m.length (rowCs m)) :
    Calls Try.prog 3 #[va, vb] w fun e w' => e = .returned (.bool true) ∧ Below w.heap.size w w' := by
  obtain ⟨aa, ca, rfl, hna, hma, _, _⟩ := id ha
  obtain ⟨ab, cb, rfl, hnb, hmb, _, _⟩ := id hb
  unfold maxLen at hma hmb
  have HA := Lib.hid ha
  have HBB := Lib.hid hb
  have HB := Lib.hid (Below.refl w.heap.size w)
  clear ha hb
  by_cases hbig : 100 < l.length
  · have hE : decide ((100 : Int) < (l.length : Int)) = true := by simp; omega
    go_enter Try.func3, Try.ntmps3
    go_wp2_with fail
    refine (alive_any _).mono ?_
    rintro e w1 ⟨rfl, hb1⟩
    replace HB := Lib.hid (below_then HB.out (by first | exact hb1 | exact below_alloc_then hb1))
    clear hb1
    go_wp2_with fail
    go_ret
    exact ⟨rfl, HB.out⟩
  · have hE : decide ((100 : Int) < (l.length : Int)) = false := by simp; omega
    cases hf : fewR m
    · have HF := Lib.hid hf
      clear hf
      go_enter Try.func3, Try.ntmps3
      go_wp2_with fail
      refine (few1 (HBB.out.later HB.out) rfl).mono ?_
      rintro e w2 ⟨rfl, hb2⟩
      rw [HF.out]
      replace HB := Lib.hid (below_then HB.out (by first | exact hb2 | exact below_alloc_then hb2))
      clear hb2
      go_wp2_with fail
      refine (alive_any _).mono ?_
      rintro e w3 ⟨rfl, hb3⟩
      replace HB := Lib.hid (below_then HB.out (by first | exact hb3 | exact below_alloc_then hb3))
      clear hb3
      go_wp2_with fail
      go_ret
      exact ⟨rfl, HB.out⟩
    · have HF := Lib.hid hf
      clear hf
      go_enter Try.func3, Try.ntmps3
      go_wp2_with fail
      refine (few1 (HBB.out.later HB.out) rfl).mono ?_
      rintro e w4 ⟨rfl, hb4⟩
      rw [HF.out]
      replace HB := Lib.hid (below_then HB.out (by first | exact hb4 | exact below_alloc_then hb4))
      clear hb4
      go_wp2_with fail
      go_loopw [19] (fun i wr => ∃ k : Nat, k ≤ l.length ∧ i = .int .i64 k ∧ Below w.heap.size w wr) (fun i _ => l.length - (intOf i).toNat)
      case atStart => exact ⟨0, Nat.zero_le _, rfl, HB.out⟩
      case round =>
        obtain ⟨k, hk, rfl, hbw⟩ := hrel
        rename World => wr
        clear HB
        have HB := Lib.hid hbw
        by_cases hlt : k < l.length
        · obtain ⟨b1, o1, hi1, c0, c1, c2, c3, _⟩ := rd_col (HA.out.later hbw) rfl k hlt
          have d0 : (wr.alloc (.cells #[.string l[k].nm, .int .i64 l[k].kd, .int .i64 l[k].ty, .bool l[k].nl] 28)).cell? ⟨wr.heap.size, 0, none⟩ = some (.string l[k].nm) := by simp [go_sem]
          have d1 : (wr.alloc (.cells #[.string l[k].nm, .int .i64 l[k].kd, .int .i64 l[k].ty, .bool l[k].nl] 28)).cell? ⟨wr.heap.size, 1, none⟩ = some (.int .i64 l[k].kd) := by simp [go_sem]
          have d2 : (wr.alloc (.cells #[.string l[k].nm, .int .i64 l[k].kd, .int .i64 l[k].ty, .bool l[k].nl] 28)).cell? ⟨wr.heap.size, 2, none⟩ = some (.int .i64 l[k].ty) := by simp [go_sem]
          have d3 : (wr.alloc (.cells #[.string l[k].nm, .int .i64 l[k].kd, .int .i64 l[k].ty, .bool l[k].nl] 28)).cell? ⟨wr.heap.size, 3, none⟩ = some (.bool l[k].nl) := by simp [go_sem]
          have HB1 := Lib.hid (below_then hbw (below_alloc wr (.cells #[.string l[k].nm, .int .i64 l[k].kd, .int .i64 l[k].ty, .bool l[k].nl] 28)))
          go_wp2_with fail
          clear hbw c0 c1 c2 c3 hi1
          generalize wr.alloc (.cells #[.string l[k].nm, .int .i64 l[k].kd, .int .i64 l[k].ty, .bool l[k].nl] 28) = w1 at *
          have cS : ∀ d os, Calls Try.prog 12 #[.agg #[.string l[k].nm, .int .i64 l[k].kd, .int .i64 l[k].ty, .bool l[k].nl]] (grow (redrawn w1 d) os) fun e w'' => e = .returned (.int .i64 (kindC l[k])) ∧ ∃ p : Regrown, w'' = grow (redrawn w1 p.d) p.os := fun d os => Calls.regrown_of (kind_any _ _ _ _ _)
          have cT : ∀ d os, Calls Try.prog 13 #[.agg #[.string l[k].nm, .int .i64 l[k].kd, .int .i64 l[k].ty, .bool l[k].nl]] (grow (redrawn w1 d) os) fun e w'' => e = .returned (.int .i64 (kindC l[k])) ∧ ∃ p : Regrown, w'' = grow (redrawn w1 p.d) p.os := fun d os => Calls.regrown_of (refKind_any _ _ _ _ _)
          generalize kindC l[k] = q at cS cT
          have hq : (q != q) = false := by simp
          have kd0 := cell_regrown d0
          have kd1 := cell_regrown d1
          have kd2 := cell_regrown d2
          have kd3 := cell_regrown d3
          refine wp_region_quiet_below (by kernel_rfl) (by kernel_rfl) ?_
          repeat (go_big_quiet_step (first | exact cS _ _ | exact cT _ _))
          refine wpQuiet_nil ?_
          intro _ hw'
          obtain ⟨⟨dq, osq⟩, hw''⟩ := hw'
          subst hw''
          clear kd0 kd1 kd2 kd3 cS cT
          have hb2 := below_regrown w1 dq osq
          generalize grow (redrawn w1 dq) osq = w2 at *
          replace d0 := cell_later hb2 d0
          replace d1 := cell_later hb2 d1
          replace d2 := cell_later hb2 d2
          replace d3 := cell_later hb2 d3
          go_wp2_with fail
          go_roundw
          case rel => exact ⟨k + 1, by omega, by go_num, below_then HB1.out hb2⟩
          case measure => simp [intOf]; omega
        · clear hbw
          go_wp2_with fail
          refine (alive_any _).mono ?_
          rintro e w5 ⟨rfl, hb5⟩
          replace HB := Lib.hid (below_then HB.out (by first | exact hb5 | exact below_alloc_then hb5))
          clear hb5
          go_wp2_with fail
          refine (rightR_any _ _ l m _ (HA.out.later HB.out) (HBB.out.later HB.out)).mono ?_
          rintro e w6 ⟨rfl, hb6⟩
          replace HB := Lib.hid (below_then HB.out (by first | exact hb6 | exact below_alloc_then hb6))
          clear hb6
          go_wp2_with fail
          refine (refRightR_any _ _ l m _ (HA.out.later HB.out) (HBB.out.later HB.out)).mono ?_
          rintro e w7 ⟨rfl, hb7⟩
          replace HB := Lib.hid (below_then HB.out (by first | exact hb7 | exact below_alloc_then hb7))
          clear hb7
          go_wp2_with fail
          go_ret
          exact ⟨ret_bool (by simp), HB.out⟩

set_option maxRecDepth 100000 in
theorem lifted (os : Os) (started : os.Started) (H : Type) (enc : TypeId × Value → H) :
    ReturnsInHanded {} Try.checked os 3 .any (Rows.rowRightSpec.pre6 enc Try.prog Try.f3 Rows.rowRightRow.domain false) (Rows.rowRightSpec.post enc Try.prog Try.f3 false true false false) := by
  refine returnsInHanded_of_change_sized (C := Try.checked) ownKnob_none started (by kernel_rfl) Try.func3
    (ChangeSpec.witness6 (enc := enc) (C := Try.checked) false ⟨#[], #[.slice none 0 0, .slice none 0 0], []⟩ 8 (by kernel_rfl) (by kernel_rfl) (by kernel_rfl) (by kernel_rfl)) ?_
  intro W base args ds gs before hval0 hW hcnd hsz0 _
  have hval : ∀ (j : Nat) t v, Try.f3.params[j]? = some t → args[j]? = some v → Value.okWide Try.prog W .any base t v := hval0
  have hW' := hW
  obtain ⟨p, q, hA0, hV, rfl, hfz, hnd⟩ := hW
  have hA : DataW.TrodAll enc Try.prog W 0 (fun _ => true) true Try.f3.params.toList args.toList ds p := hA0
  have hsz : (DataW.weightsEach Try.prog (Try.f3.params.toList ++ Rows.rowRightSpec.plain.varTypes Try.prog) (ds ++ gs)).all (· ≤ reachBytes) = true := hsz0
  rw [Try.params3] at hA hval hsz
  obtain ⟨v0, vs0, d0, ds0, p0, q0, hargs, rfl, rfl, h0, r0r⟩ := trodAll_cons hA
  obtain ⟨v1, vs1, d1, ds1, p1, q1, rfl, rfl, rfl, h1, r1r⟩ := trodAll_cons r0r
  obtain ⟨rfl, rfl, rfl⟩ := trodAll_nil r1r
  obtain rfl : args = #[v0, v1] := by cases args; simp_all
  obtain ⟨rfl, rfl⟩ := trodVars_none hV
  have g0 := sized_at hsz (j := 0) rfl rfl
  have g1 := sized_at hsz (j := 1) rfl rfl
  obtain ⟨y0_0, f0_0⟩ := open_cols (hval 0 22 v0 rfl rfl) h0
  obtain ⟨y1_0, f1_0⟩ := open_row (hval 1 24 v1 rfl rfl) h1
  refine (walk v0 y0_0 v1 y1_0 W f0_0 f1_0).mono fun e W' ⟨he, hg⟩ => ⟨_, he, law_post laidOut (by kernel_rfl) rfl Try.underlying4 rfl rfl hW' hg⟩

theorem over : Rows.rowRightRow.holds Try.pinned (OpenSpec.ofChange Rows.rowRightSpec) :=
  OpenClaim.holds_of_wide 3 Try.f3 rfl rfl rfl rfl rfl rfl rfl ⟨rfl, rfl, rfl, rfl, rfl⟩ rfl rfl rfl rfl rfl (by kernel_rfl) Try.func3 (by kernel_rfl)
    (of_decide_eq_true (by kernel_rfl)) (by unfold Func.isWrapper; first | (rw [if_pos (by decide +kernel)]; kernel_rfl) | (rw [if_neg (by decide +kernel)]; exact ⟨rfl, rfl⟩))
    (fun os started H enc _ => lifted os started H enc)

/-- THE STATEMENT. -/
theorem proved : Rows.RowRightSaid :=
  over
#print axioms proved
end Go.Proofs.Ytdfdgnnlpopkmaa.rowRight
