/-
  The law CodeGets: the call returns true for all bytes. No condition.
-/
import Derived.Test.YtdledkpdhekamaaC1A
import Derived.Test.YtdledkpdhekamaaLaw
namespace Go.Proofs.Ytdledkpdhekamaa.codeGets
open Go.ChangeShapes Go.WideShapes Go.ChangeAt Go.RowKit Go.Proofs.Ytdledkpdhekamaa
open Go.ChangeMaps (open_string shut_string)

theorem getV_form (b : List UInt8) : ∃ x y z : Int, getV b = .tuple #[.int .i64 x, .int .i64 y, .int .i64 z] := by
  unfold getV
  split
  · exact ⟨_, _, _, rfl⟩
  · exact ⟨_, _, _, rfl⟩
theorem getTextV_form (b : List UInt8) : ∃ (s : ByteArray) (y z : Int), getTextV b = .tuple #[.string s, .int .i64 y, .int .i64 z] := by
  unfold getTextV
  split
  · exact ⟨_, _, _, rfl⟩
  · exact ⟨_, _, _, rfl⟩
theorem get_form {v : Value} {b : List UInt8} {w : World} (h : Rd w v b.length (b.map bc)) :
    Calls Try.prog 15 #[v] w fun e w' => ∃ x y z : Int, e = .returned (.tuple #[.int .i64 x, .int .i64 y, .int .i64 z]) ∧ getV b = .tuple #[.int .i64 x, .int .i64 y, .int .i64 z] ∧ w = w' :=
  (get_any v b w h).mono fun _ _ ⟨he, hw⟩ => let ⟨x, y, z, hf⟩ := getV_form b; ⟨x, y, z, by rw [he, hf], hf, hw⟩
theorem refGet_form {v : Value} {b : List UInt8} {w : World} (h : Rd w v b.length (b.map bc)) :
    Calls Try.prog 16 #[v] w fun e w' => ∃ x y z : Int, e = .returned (.tuple #[.int .i64 x, .int .i64 y, .int .i64 z]) ∧ getV b = .tuple #[.int .i64 x, .int .i64 y, .int .i64 z] ∧ Below w.heap.size w w' :=
  (refGet_any v b w h).mono fun _ _ ⟨he, hw⟩ => let ⟨x, y, z, hf⟩ := getV_form b; ⟨x, y, z, by rw [he, hf], hf, hw⟩
theorem getText_form {v : Value} {b : List UInt8} {w : World} (h : Rd w v b.length (b.map bc)) :
    Calls Try.prog 17 #[v] w fun e w' => ∃ (x : ByteArray) (y z : Int), e = .returned (.tuple #[.string x, .int .i64 y, .int .i64 z]) ∧ getTextV b = .tuple #[.string x, .int .i64 y, .int .i64 z] ∧ w = w' :=
  (getText_any v b w h).mono fun _ _ ⟨he, hw⟩ => let ⟨x, y, z, hf⟩ := getTextV_form b; ⟨x, y, z, by rw [he, hf], hf, hw⟩
theorem refGetText_form {v : Value} {b : List UInt8} {w : World} (h : Rd w v b.length (b.map bc)) :
    Calls Try.prog 18 #[v] w fun e w' => ∃ (x : ByteArray) (y z : Int), e = .returned (.tuple #[.string x, .int .i64 y, .int .i64 z]) ∧ getTextV b = .tuple #[.string x, .int .i64 y, .int .i64 z] ∧ Below w.heap.size w w' :=
  (refGetText_any v b w h).mono fun _ _ ⟨he, hw⟩ => let ⟨x, y, z, hf⟩ := getTextV_form b; ⟨x, y, z, by rw [he, hf], hf, hw⟩
def numsT (b : List UInt8) : List Int × Int × Int := match getNums b with
  | none => ([], 0, 3)
  | some (l, k) => (l, k, 0)
theorem rd_nil (w : World) (f : Int → Value) : Rd w (.slice none 0 0) ([] : List Int).length (([] : List Int).map f) := ⟨none, 0, rfl, Nat.le_refl _, Nat.zero_le _, fun _ => rfl, fun a ha => nomatch ha⟩
theorem numsR_form {w w' : World} {b : List UInt8} {e : Ending} (h : NumsR w b e w') :
    ∃ (u : Value) (l : List Int) (y z : Int), e = .returned (.tuple #[u, .int .i64 y, .int .i64 z]) ∧ numsT b = (l, y, z) ∧ Rd w' u l.length (l.map (Value.int .i64)) ∧ Below w.heap.size w w' := by
  obtain ⟨hb, ⟨h1, h2⟩ | ⟨u, l, k, h1, h2, h3⟩⟩ := h
  · exact ⟨_, [], 0, 3, h2, by unfold numsT; rw [h1], rd_nil _ _, hb⟩
  · exact ⟨u, l, k, 0, h2, by unfold numsT; rw [h1], Rd.of_own h3, hb⟩
theorem getNums_form {v : Value} {b : List UInt8} {w : World} (h : Rd w v b.length (b.map bc)) (hb : b.length ≤ 1000000000) :
    Calls Try.prog 19 #[v] w fun e w' => ∃ (u : Value) (l : List Int) (y z : Int), e = .returned (.tuple #[u, .int .i64 y, .int .i64 z]) ∧ numsT b = (l, y, z) ∧ Rd w' u l.length (l.map (Value.int .i64)) ∧ Below w.heap.size w w' :=
  (getNums_any v b w h hb).mono fun _ _ h => numsR_form h
theorem refGetNums_form {v : Value} {b : List UInt8} {w : World} (h : Rd w v b.length (b.map bc)) (hb : b.length ≤ 1000000000) :
    Calls Try.prog 20 #[v] w fun e w' => ∃ (u : Value) (l : List Int) (y z : Int), e = .returned (.tuple #[u, .int .i64 y, .int .i64 z]) ∧ numsT b = (l, y, z) ∧ Rd w' u l.length (l.map (Value.int .i64)) ∧ Below w.heap.size w w' :=
  (refGetNums_any v b w h hb).mono fun _ _ h => numsR_form h
theorem same3 {x y z x' y' z' : Int} (h : Value.tuple #[.int .i64 x, .int .i64 y, .int .i64 z] = .tuple #[.int .i64 x', .int .i64 y', .int .i64 z']) : x = x' ∧ y = y' ∧ z = z' := by
  simpa using h
theorem same3s {x x' : ByteArray} {y z y' z' : Int} (h : Value.tuple #[.string x, .int .i64 y, .int .i64 z] = .tuple #[.string x', .int .i64 y', .int .i64 z']) : x = x' ∧ y = y' ∧ z = z' := by
  simpa using h
theorem same3n {x x' : List Int} {y z y' z' : Int} (h : (x, y, z) = (x', y', z')) : x = x' ∧ y = y' ∧ z = z' := by
  simpa using h

set_option maxRecDepth 100000 in
set_option maxHeartbeats 1000000 in
theorem walk (v : Value) (l : List UInt8) (w : World) (hr : Rd w v l.length (l.map bc)) :
    Calls Try.prog 4 #[v] w fun e w' => e = .returned (.bool true) ∧ Below w.heap.size w w' := by
  obtain ⟨ao, c, rfl, hna, hma, _, _⟩ := id hr
  unfold maxLen at hma
  have HR := Lib.hid hr
  clear hr
  by_cases hbig : 1000 < l.length
  · go_enter Try.func4, Try.ntmps4
    go_wp2_with fail
    refine (alive_any _).mono ?_
    rintro e w1 ⟨rfl, hb1⟩
    go_wp2_with fail
    go_ret
    exact ⟨rfl, hb1⟩
  · go_enter Try.func4, Try.ntmps4
    go_wp2_with fail
    refine (get_form HR.out).mono ?_
    rintro e w1 ⟨x1, y1, z1, rfl, hx1, rfl⟩
    have Hx1 := Lib.hid hx1
    clear hx1
    go_wp2_with fail
    refine (refGet_form HR.out).mono ?_
    rintro e w2 ⟨x2, y2, z2, rfl, hx2, hb2⟩
    obtain ⟨rfl, rfl, rfl⟩ := same3 (Hx1.out.symm.trans hx2)
    have hr2 := Lib.hid (HR.out.later hb2)
    clear hx2 Hx1
    go_wp2_with fail
    refine (getText_form hr2.out).mono ?_
    rintro e w3 ⟨s1, y3, z3, rfl, hx3, rfl⟩
    have Hx3 := Lib.hid hx3
    clear hx3
    go_wp2_with fail
    refine (refGetText_form hr2.out).mono ?_
    rintro e w4 ⟨s2, y4, z4, rfl, hx4, hb4⟩
    obtain ⟨rfl, rfl, rfl⟩ := same3s (Hx3.out.symm.trans hx4)
    have hr4 := Lib.hid (hr2.out.later hb4)
    have hb := below_then hb2 hb4
    clear hx4 Hx3 hr2
    go_wp2_with fail
    refine (getNums_form hr4.out (by omega)).mono ?_
    rintro e w5 ⟨u5, l5, y5, z5, rfl, hx5, hrd5, hb5⟩
    have Hx5 := Lib.hid hx5
    have H5 := Lib.hid hrd5
    have hr5 := Lib.hid (hr4.out.later hb5)
    clear hx5 hrd5
    go_wp2_with fail
    refine (refGetNums_form hr5.out (by omega)).mono ?_
    rintro e w6 ⟨u6, l6, y6, z6, rfl, hx6, hrd6, hb6⟩
    obtain ⟨rfl, rfl, rfl⟩ := same3n (Hx5.out.symm.trans hx6)
    have H6 := Lib.hid hrd6
    have H5' := Lib.hid (H5.out.later hb6)
    have hb' := below_then (below_then hb hb5) hb6
    clear hx6 Hx5 hrd6 H5
    go_wp2_with fail
    refine (alive_any _).mono ?_
    rintro e w7 ⟨rfl, hb7⟩
    go_wp2_with fail
    refine (ints_true (H5'.out.later hb7) rfl (H6.out.later hb7) rfl rfl).mono ?_
    rintro e w8 ⟨rfl, hb8⟩
    go_wp2_with fail
    go_ret
    exact ⟨ret_bool (by simp), below_then (below_then hb' hb7) hb8⟩

set_option maxRecDepth 100000 in
theorem lifted (os : Os) (started : os.Started) (H : Type) (enc : TypeId × Value → H) :
    ReturnsInHanded {} Try.checked os 4 .any (Rows.codeGetsSpec.pre6 enc Try.prog Try.f4 Rows.codeGetsRow.domain false) (Rows.codeGetsSpec.post enc Try.prog Try.f4 false true false false) := by
  refine returnsInHanded_of_change_sized (C := Try.checked) ownKnob_none started (by kernel_rfl) Try.func4
    (ChangeSpec.witness6 (enc := enc) (C := Try.checked) false ⟨#[], #[.slice none 0 0], []⟩ 8 (by kernel_rfl) (by kernel_rfl) (by kernel_rfl) (by kernel_rfl)) ?_
  intro W base args ds gs before hval0 hW hcnd hsz0 _
  have hval : ∀ (j : Nat) t v, Try.f4.params[j]? = some t → args[j]? = some v → Value.okWide Try.prog W .any base t v := hval0
  have hW' := hW
  obtain ⟨p, q, hA0, hV, rfl, hfz, hnd⟩ := hW
  have hA : DataW.TrodAll enc Try.prog W 0 (fun _ => true) true Try.f4.params.toList args.toList ds p := hA0
  have hsz : (DataW.weightsEach Try.prog (Try.f4.params.toList ++ Rows.codeGetsSpec.plain.varTypes Try.prog) (ds ++ gs)).all (· ≤ reachBytes) = true := hsz0
  rw [Try.params4] at hA hval hsz
  obtain ⟨v0, vs0, d0, ds0, p0, q0, hargs, rfl, rfl, h0, r0r⟩ := trodAll_cons hA
  obtain ⟨rfl, rfl, rfl⟩ := trodAll_nil r0r
  obtain rfl : args = #[v0] := by cases args; simp_all
  obtain ⟨rfl, rfl⟩ := trodVars_none hV
  have g0 := sized_at hsz (j := 0) rfl rfl
  obtain ⟨l0, r0⟩ := open_bytes Try.underlying24 Try.underlying5 cellsU8 (hval 0 24 v0 rfl rfl) h0
  refine (walk v0 l0 W r0).mono fun e W' ⟨he, hg⟩ => ⟨_, he, law_post laidOut (by kernel_rfl) rfl Try.underlying4 rfl rfl hW' hg⟩

theorem over : Rows.codeGetsRow.holds Try.pinned (OpenSpec.ofChange Rows.codeGetsSpec) :=
  OpenClaim.holds_of_wide 4 Try.f4 rfl rfl rfl rfl rfl rfl rfl ⟨rfl, rfl, rfl, rfl, rfl⟩ rfl rfl rfl rfl rfl (by kernel_rfl) Try.func4 (by kernel_rfl)
    (of_decide_eq_true (by kernel_rfl)) (by unfold Func.isWrapper; first | (rw [if_pos (by decide +kernel)]; kernel_rfl) | (rw [if_neg (by decide +kernel)]; exact ⟨rfl, rfl⟩))
    (fun os started H enc _ => lifted os started H enc)

/-- THE STATEMENT. -/
theorem proved : Rows.CodeGetsSaid :=
  over
#print axioms proved
end Go.Proofs.Ytdledkpdhekamaa.codeGets
