/-
  The law RowGets.
-/
import Derived.Test.YtdfdgnnlpopkmaaLB
namespace Go.Proofs.Ytdfdgnnlpopkmaa.rowGets
open Go.ChangeShapes Go.WideShapes Go.ChangeAt Go.RowKit Go.Sort Go.BigFrame Go.Proofs.Ytdfdgnnlpopkmaa
open Go.ChangeMaps (open_string shut_string)

set_option maxRecDepth 100000 in
set_option maxHeartbeats 2000000 in
theorem walk (va : Value) (b : List UInt8) (w : World) (ha : Rd w va b.length (b.map bc)) :
    Calls Try.prog 6 #[va] w fun e w' => e = .returned (.bool true) ∧ Below w.heap.size w w' := by
  obtain ⟨aa, ca, rfl, hna, hma, _, _⟩ := id ha
  unfold maxLen at hma
  have HA := Lib.hid ha
  have HB := Lib.hid (Below.refl w.heap.size w)
  clear ha
  by_cases hbig : 1000 < b.length
  · have hE : decide ((1000 : Int) < (b.length : Int)) = true := by simp; omega
    go_enter Try.func6, Try.ntmps6
    go_wp2_with fail
    refine (alive_any _).mono ?_
    rintro e w1 ⟨rfl, hb1⟩
    replace HB := Lib.hid (below_then HB.out (by first | exact hb1 | exact below_alloc_then hb1))
    clear hb1
    go_wp2_with fail
    go_ret
    exact ⟨rfl, HB.out⟩
  · have hE : decide ((1000 : Int) < (b.length : Int)) = false := by simp; omega
    cases hg : getR b with
    | none =>
      have HG := Lib.hid hg
      have HN : ∀ W : World, Rd W (.slice none 0 0) ([] : List Val).length (rowCs []) := fun W => ⟨none, 0, rfl, Nat.le_refl _, Nat.zero_le _, fun _ => rfl, fun a h => nomatch h⟩
      have HNN := Lib.hid HN
      clear hg HN
      go_enter Try.func6, Try.ntmps6
      go_wp2_with fail
      refine (getR_any _ b _ HA.out (by omega)).mono ?_
      rintro e w1 ⟨hb1, ⟨-, rfl⟩ | ⟨v1, l1, k1, hg1, -, -⟩⟩
      rotate_left
      · rw [HG.out] at hg1; cases hg1
      replace HB := Lib.hid hb1
      clear hb1
      go_wp2_with fail
      refine (refGetR_any _ b _ (HA.out.later HB.out) (by omega)).mono ?_
      rintro e w2 ⟨hb2, ⟨-, rfl⟩ | ⟨v1, l1, k1, hg1, -, -⟩⟩
      rotate_left
      · rw [HG.out] at hg1; cases hg1
      replace HB := Lib.hid (below_then HB.out hb2)
      clear hb2
      go_wp2_with fail
      refine (refSameR_any _ _ [] [] _ (HNN.out _) (HNN.out _)).mono ?_
      rintro e w3 ⟨rfl, hb3⟩
      rw [show sameR ([] : List Val) [] = true from rfl]
      replace HB := Lib.hid (below_then HB.out hb3)
      clear hb3
      go_wp2_with fail
      have cAl : ∀ d os, Calls Try.prog 11 #[] (grow (redrawn w3 d) os) fun e w'' => e = .returned (.bool true) ∧ ∃ p : Regrown, w'' = grow (redrawn w3 p.d) p.os := fun d os => Calls.regrown_of (alive_any _)
      refine wp_region_quiet_below (by kernel_rfl) (by kernel_rfl) ?_
      repeat (go_big_quiet_step (first | exact cAl _ _))
      refine wpQuiet_nil ?_
      intro _ hw'
      obtain ⟨⟨dq, osq⟩, hw''⟩ := hw'
      subst hw''
      clear cAl
      have hb4 := below_regrown w3 dq osq
      generalize grow (redrawn w3 dq) osq = w4 at *
      go_wp2_with fail
      go_ret
      exact ⟨rfl, below_then HB.out hb4⟩
    | some q =>
      obtain ⟨l, k⟩ := q
      obtain ⟨hall0, hput, hk⟩ := getL_some getVal_puts hg
      have hle := getL_le getVal_takes hg
      have HAll : Hid (allR l = true) := List.all_eq_true.2 hall0
      have HG := Lib.hid hg
      have Htake : Hid (bytesR l = b.take k) := by
        unfold Hid
        conv => rhs; rw [hput]
        rw [hk]
        simp
      obtain ⟨a5, c5, hsl, hrd5⟩ := run_part_hi elB HA.out (by simp) k hle.2.1
      rw [Nat.mul_one, ← List.map_take] at hrd5
      have H5 := Lib.hid hrd5
      have Hlk := Lib.hid (show k = (b.take k).length by simp; omega)
      have Hl := Lib.hid (show (bytesR l).length = (bytesR l).length from rfl)
      have d1 : decide ((k : Int) ≤ (b.length : Int)) = true := by simp; omega
      have d2 : decide (k ≤ b.length) = true := by simp; omega
      have hl1 : l.length ≤ 1000 := by omega
      clear hg hall0 hput hk hrd5
      go_enter Try.func6, Try.ntmps6
      go_wp2_with fail
      refine (getR_any _ b _ HA.out (by omega)).mono ?_
      rintro e w1 ⟨hb1, ⟨hn, -⟩ | ⟨v1, l1, k1, hg1, rfl, hown1⟩⟩
      · rw [HG.out] at hn; cases hn
      rw [HG.out] at hg1
      simp only [Option.some.injEq, Prod.mk.injEq] at hg1
      obtain ⟨rfl, rfl⟩ := hg1
      replace HB := Lib.hid hb1
      have h3 := Rd.of_own hown1
      obtain ⟨a3, c3, rfl, hn3, hm3, _, _⟩ := id h3
      have H3 := Lib.hid h3
      clear hb1 hown1 h3
      go_wp2_with fail
      refine (refGetR_any _ b _ (HA.out.later HB.out) (by omega)).mono ?_
      rintro e w2 ⟨hb2, ⟨hn, -⟩ | ⟨v1, l1, k1, hg1, rfl, hown1⟩⟩
      · rw [HG.out] at hn; cases hn
      rw [HG.out] at hg1
      simp only [Option.some.injEq, Prod.mk.injEq] at hg1
      obtain ⟨rfl, rfl⟩ := hg1
      replace HB := Lib.hid (below_then HB.out hb2)
      replace H3 := Lib.hid (H3.out.later hb2)
      have H6 := Lib.hid (Rd.of_own hown1)
      clear hb2 hown1
      go_wp2_with fail
      refine (refSameR_any _ _ l l _ H3.out H6.out).mono ?_
      rintro e w3 ⟨rfl, hb3⟩
      rw [show sameR l l = true from decide_eq_true rfl]
      replace HB := Lib.hid (below_then HB.out hb3)
      replace H3 := Lib.hid (H3.out.later hb3)
      clear hb3 H6
      replace H5 := Lib.hid (H5.out.later HB.out)
      go_wp2_with fail
      go_region_held3 (fun w' => Below w3.heap.size w3 w') (first | exact (Below.refl _ _).drew | exact below_then (by assumption) (by assumption))
        (first
        | (go_at_call 11; refine (alive_any _).mono ?_; rintro e w4 ⟨rfl, hb4⟩)
        | (go_at_call 16; refine (refAll_any _ l _ (H3.out.later (by assumption))).mono ?_; rintro e w5 ⟨rfl, hb5⟩; rw [HAll.out])
        | (go_at_call 21; refine (bytesR_any _ l _ (H3.out.later (by assumption)) (by omega) HAll.out).mono ?_; rintro e w6 ⟨v6, rfl, hown6, hb6⟩)
        | (go_at_call 23; refine (same_true (Rd.of_own (by assumption)) rfl (H5.out.later (by assumption)) Hlk.out Htake.out).mono ?_; rintro e w7 ⟨rfl, hb7⟩))
      have hb := below_then (below_then (below_then (below_of_drew hb4) hb5) hb6) hb7
      clear hown6 hsl d1 d2
      go_wp2_with fail
      go_ret
      exact ⟨ret_bool (by simp), below_then HB.out hb⟩

set_option maxRecDepth 100000 in
theorem lifted (os : Os) (started : os.Started) (H : Type) (enc : TypeId × Value → H) :
    ReturnsInHanded {} Try.checked os 6 .any (Rows.rowGetsSpec.pre6 enc Try.prog Try.f6 Rows.rowGetsRow.domain false) (Rows.rowGetsSpec.post enc Try.prog Try.f6 false true false false) := by
  refine returnsInHanded_of_change_sized (C := Try.checked) ownKnob_none started (by kernel_rfl) Try.func6
    (ChangeSpec.witness6 (enc := enc) (C := Try.checked) false ⟨#[], #[.slice none 0 0], []⟩ 8 (by kernel_rfl) (by kernel_rfl) (by kernel_rfl) (by kernel_rfl)) ?_
  intro W base args ds gs before hval0 hW hcnd hsz0 _
  have hval : ∀ (j : Nat) t v, Try.f6.params[j]? = some t → args[j]? = some v → Value.okWide Try.prog W .any base t v := hval0
  have hW' := hW
  obtain ⟨p, q, hA0, hV, rfl, hfz, hnd⟩ := hW
  have hA : DataW.TrodAll enc Try.prog W 0 (fun _ => true) true Try.f6.params.toList args.toList ds p := hA0
  have hsz : (DataW.weightsEach Try.prog (Try.f6.params.toList ++ Rows.rowGetsSpec.plain.varTypes Try.prog) (ds ++ gs)).all (· ≤ reachBytes) = true := hsz0
  rw [Try.params6] at hA hval hsz
  obtain ⟨v0, vs0, d0, ds0, p0, q0, hargs, rfl, rfl, h0, r0r⟩ := trodAll_cons hA
  obtain ⟨rfl, rfl, rfl⟩ := trodAll_nil r0r
  obtain rfl : args = #[v0] := by cases args; simp_all
  obtain ⟨rfl, rfl⟩ := trodVars_none hV
  have g0 := sized_at hsz (j := 0) rfl rfl
  obtain ⟨l0, r0⟩ := open_bytes Try.underlying35 Try.underlying5 cellsU8 (hval 0 35 v0 rfl rfl) h0
  refine (walk v0 l0 W r0).mono fun e W' ⟨he, hg⟩ => ⟨_, he, law_post laidOut (by kernel_rfl) rfl Try.underlying4 rfl rfl hW' hg⟩

theorem over : Rows.rowGetsRow.holds Try.pinned (OpenSpec.ofChange Rows.rowGetsSpec) :=
  OpenClaim.holds_of_wide 6 Try.f6 rfl rfl rfl rfl rfl rfl rfl ⟨rfl, rfl, rfl, rfl, rfl⟩ rfl rfl rfl rfl rfl (by kernel_rfl) Try.func6 (by kernel_rfl)
    (of_decide_eq_true (by kernel_rfl)) (by unfold Func.isWrapper; first | (rw [if_pos (by decide +kernel)]; kernel_rfl) | (rw [if_neg (by decide +kernel)]; exact ⟨rfl, rfl⟩))
    (fun os started H enc _ => lifted os started H enc)

/-- THE STATEMENT. -/
theorem proved : Rows.RowGetsSaid :=
  over
#print axioms proved
end Go.Proofs.Ytdfdgnnlpopkmaa.rowGets
