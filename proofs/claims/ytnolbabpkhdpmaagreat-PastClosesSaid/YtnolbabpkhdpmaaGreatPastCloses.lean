/-
  The law PastCloses. (printed by tools/gen_l20.py)
-/
import Derived.Test.YtnolbabpkhdpmaaGreatN9
namespace Go.Proofs.YtnolbabpkhdpmaaGreat.pastCloses
open Go.ChangeShapes Go.WideShapes Go.ChangeAt Go.RowKit Go.Sort Go.BigFrame Go.Proofs.YtnolbabpkhdpmaaGreat
open Go.ChangeMaps (open_string shut_string)
attribute [local irreducible] FlowW

theorem ofV_v {v : Value} {l : List Int} {d f : Int} {w : World} (hf : ofV l d = f) (h : Rd w v l.length (l.map ic)) : Calls Tryz.prog 33 #[v, .int .i64 d] w fun e w' => e = .returned (.int .i64 f) ∧ w = w' := hf ▸ ofV_any v l d w h
theorem few_b {va : Value} {l : List TxS} {w : World} (r : Bool) (hr : fewL 20 l = r) (ha : LRd w va l) : Calls Tryz.prog 5 #[va] w fun e w' => e = .returned (.bool r) ∧ Below w.heap.size w w' := hr ▸ few20_any w ha
theorem closed_b {vv vl : Value} {line : List Int} {last : Int} {l : List TxS} {w : World} (r : Bool) (hr : closedT line last l = r) (hv : Rd w vv line.length (line.map ic)) (hl : LRd w vl l) (hwr : ∀ d, -9223372036854775808 ≤ ofV line d) (hn : l.length ≤ 1000000) :
    Calls Tryz.prog 6 #[vv, .int .i64 last, vl] w fun e w' => e = .returned (.bool r) ∧ Below w.heap.size w w' := hr ▸ closed_any w hv hl hwr hn
theorem refClosed_b {vl vv : Value} {line : List Int} {last : Int} {l : List TxS} {w : World} (r : Bool) (hr : refClosedT line last l = r) (hv : Rd w vv line.length (line.map ic)) (hl : LRd w vl l) (hn : l.length ≤ 1000000) (h1 : line.length ≤ 1000000) (h3 : ∀ x ∈ l, x.nd ≤ 1000000) :
    Calls Tryz.prog 7 #[vv, .int .i64 last, vl] w fun e w' => e = .returned (.bool r) ∧ Below w.heap.size w w' := hr ▸ refClosed_any w hv hl hn h1 h3
set_option maxRecDepth 100000 in
set_option maxHeartbeats 16000000 in
theorem walk (v0 : Value) (line : List Int) (last : Int) (v2 : Value) (l : List TxS) (w : World) (hv : Rd w v0 line.length (line.map ic)) (hw : ∀ d, -9223372036854775808 ≤ ofV line d) (_ : -9223372036854775808 ≤ last ∧ last ≤ 9223372036854775807) (hl : LRd w v2 l) (hbd : ∀ x ∈ l, x.Bd) :
    Calls Tryz.prog 3 #[v0, .int .i64 last, v2] w fun e w' => e = .returned (.bool true) ∧ Below w.heap.size w w' := by
  obtain ⟨ga, gc, ev0, hn1v0, hn2v0, -, -⟩ := id hv
  unfold maxLen at hn2v0
  obtain ⟨m, hlm⟩ : ∃ m, line.length = m := ⟨_, rfl⟩
  rw [hlm] at ev0 hn1v0
  subst ev0
  have HLm := Lib.hid hlm
  clear hlm
  obtain ⟨la, lc, ev2, hn1v2, hn2v2, -, -⟩ := id hl.1
  unfold maxLen at hn2v2
  obtain ⟨n, hln⟩ : ∃ n, l.length = n := ⟨_, rfl⟩
  rw [hln] at ev2 hn1v2
  subst ev2
  have HLn := Lib.hid hln
  clear hln
  have HV := Lib.hid hv
  have HW := Lib.hid hw
  have HL := Lib.hid hl
  have HBD := Lib.hid hbd
  clear hv hw hl hbd
  go_enter Tryz.func3, Tryz.ntmps3
  go_wp2_with fail
  refine (awk_any _).mono ?_
  rintro e w1 ⟨rfl, hb⟩
  have HB := Lib.hid hb
  clear hb
  cases hf : fewL 20 l
  · have HF := Lib.hid hf
    clear hf
    go_wp2_with fail
    refine (few_b false HF.out (HL.out.later HB.out)).mono ?_
    rintro e wn ⟨rfl, hb⟩
    replace HB := Lib.hid (below_then HB.out hb)
    clear hb
    go_wp2_with fail
    go_ret
    exact ⟨rfl, HB.out⟩
  have HF := Lib.hid hf
  have hff := fewL_facts hf
  have hn20 : n ≤ 20 := by have := hff.1; have := HLn.out; omega
  have HFF := Lib.hid hff.2
  clear hf hff
  go_wp2_with fail
  refine (few_b true HF.out (HL.out.later HB.out)).mono ?_
  rintro e wn ⟨rfl, hb⟩
  replace HB := Lib.hid (below_then HB.out hb)
  clear hb
  by_cases hm : m ≤ 100
  case neg =>
    have hm1 : decide ((100 : Int) < (m : Int)) = true := decide_eq_true (by omega)
    have hm2 : decide (100 < m) = true := decide_eq_true (by omega)
    go_wp2_with fail
    go_ret
    exact ⟨rfl, HB.out⟩
  have hm1 : decide ((100 : Int) < (m : Int)) = false := decide_eq_false (by omega)
  have hm2 : decide (100 < m) = false := decide_eq_false (by omega)
  obtain ⟨c, hc⟩ : ∃ c, closedT line last l = c := ⟨_, rfl⟩
  have HC := Lib.hid hc
  have HC2 : Hid (refClosedT line last l = c) := (refClosed_same line last l).trans hc
  have hcc : (c == c) = true := by simp
  clear hc
  go_wp2_with fail
  refine (closed_b c HC.out (HV.out.later HB.out) (HL.out.later HB.out) HW.out (by have := HLn.out; omega)).mono ?_
  rintro e wn ⟨rfl, hb⟩
  replace HB := Lib.hid (below_then HB.out hb)
  clear hb
  go_wp2_with fail
  refine (refClosed_b c HC2.out (HV.out.later HB.out) (HL.out.later HB.out) (by have := HLn.out; omega) (by have := HLm.out; omega) (fun x hx => by have := (HFF.out x hx).1; omega)).mono ?_
  rintro e wn ⟨rfl, hb⟩
  replace HB := Lib.hid (below_then HB.out hb)
  clear hb
  go_wp2_with fail
  go_ret
  exact ⟨rfl, HB.out⟩

set_option maxRecDepth 100000 in
theorem lifted (os : Os) (started : os.Started) (H : Type) (enc : TypeId × Value → H) :
    ReturnsInHanded {} Tryz.checked os 3 .any (Rows.pastClosesSpec.pre6 enc Tryz.prog Tryz.f3 Rows.pastClosesRow.domain false) (Rows.pastClosesSpec.post enc Tryz.prog Tryz.f3 false true false false) := by
  refine returnsInHanded_of_change_sized (C := Tryz.checked) ownKnob_none started (by kernel_rfl) Tryz.func3
    (ChangeSpec.witness6 (enc := enc) (C := Tryz.checked) false ⟨#[], #[.slice none 0 0, .int .i64 0, .slice none 0 0], []⟩ 8 (by kernel_rfl) (by kernel_rfl) (by kernel_rfl) (by kernel_rfl)) ?_
  intro W base args ds gs before hval0 hW hcnd hsz0 _
  have hval : ∀ (j : Nat) t v, Tryz.f3.params[j]? = some t → args[j]? = some v → Value.okWide Tryz.prog W .any base t v := hval0
  have hW' := hW
  obtain ⟨p, q, hA0, hV, rfl, hfz, hnd⟩ := hW
  have hA : DataW.TrodAll enc Tryz.prog W 0 (fun _ => true) true Tryz.f3.params.toList args.toList ds p := hA0
  have hsz : (DataW.weightsEach Tryz.prog (Tryz.f3.params.toList ++ Rows.pastClosesSpec.plain.varTypes Tryz.prog) (ds ++ gs)).all (· ≤ reachBytes) = true := hsz0
  rw [Tryz.params3] at hA hval hsz
  obtain ⟨v0, vs0, d0, ds0, p0, q0, hargs, rfl, rfl, h0, r0r⟩ := trodAll_cons hA
  obtain ⟨v1, vs1, d1, ds1, p1, q1, rfl, rfl, rfl, h1, r1r⟩ := trodAll_cons r0r
  obtain ⟨v2, vs2, d2, ds2, p2, q2, rfl, rfl, rfl, h2, r2r⟩ := trodAll_cons r1r
  obtain ⟨rfl, rfl, rfl⟩ := trodAll_nil r2r
  obtain rfl : args = #[v0, v1, v2] := by cases args; simp_all
  obtain ⟨rfl, rfl⟩ := trodVars_none hV
  have g0 := sized_at hsz (j := 0) rfl rfl
  have g1 := sized_at hsz (j := 1) rfl rfl
  have g2 := sized_at hsz (j := 2) rfl rfl
  obtain ⟨y0_0, f0_0, f0_1⟩ := open_line (hval 0 23 v0 rfl rfl) h0
  obtain ⟨a1, rfl, rfl, rfl, w1⟩ := open_int Tryz.underlying3 (hval 1 3 v1 rfl rfl) h1
  obtain ⟨y2_0, f2_0, f2_1⟩ := open_txs (hval 2 24 v2 rfl rfl) h2
  refine (walk v0 y0_0 a1 v2 y2_0 W f0_0 f0_1 (wf_i64 w1) f2_0 f2_1).mono fun e W' ⟨he, hg⟩ => ⟨_, he, law_post laidOut (by kernel_rfl) rfl Tryz.underlying4 rfl rfl hW' hg⟩

theorem over : Rows.pastClosesRow.holds Tryz.pinned (OpenSpec.ofChange Rows.pastClosesSpec) :=
  OpenClaim.holds_of_wide 3 Tryz.f3 rfl rfl rfl rfl rfl rfl rfl ⟨rfl, rfl, rfl, rfl, rfl⟩ rfl rfl rfl rfl rfl (by kernel_rfl) Tryz.func3 (by kernel_rfl)
    (of_decide_eq_true (by kernel_rfl)) (by unfold Func.isWrapper; first | (rw [if_pos (by decide +kernel)]; kernel_rfl) | (rw [if_neg (by decide +kernel)]; exact ⟨rfl, rfl⟩))
    (fun os started H enc _ => lifted os started H enc)

/-- THE STATEMENT. -/
theorem proved : Rows.PastClosesSaid :=
  over
#print axioms proved
end Go.Proofs.YtnolbabpkhdpmaaGreat.pastCloses
