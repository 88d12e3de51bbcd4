/-
  Layer 9 (bag): more arguments opened; the law's own choice of parts.
-/
import Derived.Test.YtnpciogpegmejaaGV
namespace Go.Proofs.Ytnpciogpegmejaa
open Go.ChangeShapes Go.WideShapes Go.RowKit Go.Sort Go.BigFrame

section
variable {H : Type} {enc : TypeId × Value → H} {W : World} {n : Nat} {cs : List Value} {x : DataW H × List MemPlace} {v : Value} {d : DataW H} {p : List MemPlace} {base : Nat}
set_option maxRecDepth 100000 in
/-- A dot that came in. -/
theorem open_dot (hok : Value.okWide Try.prog W .any base 37 v) (h : DataW.Trod enc Try.prog W 0 (fun _ => true) true 37 v d p) : ∃ a : Dt, v = a.agg := by
  obtain ⟨cs, rfl, hl, hcs⟩ := opn_agg (.inl ⟨_, Try.underlying37⟩) hok
  obtain ⟨n, h⟩ := h
  rw [hcs] at h
  rw [cellsDot] at hl
  obtain ⟨a, rfl⟩ := opn_dot h hl
  exact ⟨a, rfl⟩
set_option maxRecDepth 100000 in
theorem open_int2 (hok : Value.okWide Try.prog W .any base 35 v) (h : DataW.Trod enc Try.prog W 0 (fun _ => true) true 35 v d p) : ∃ a b : Int, v = .agg #[.int .i64 a, .int .i64 b] := by
  obtain ⟨cs, rfl, hl, hcs⟩ := opn_agg (.inr ⟨_, _, Try.underlying35⟩) hok
  obtain ⟨n, h⟩ := h
  rw [hcs] at h
  rw [show Try.prog.cellsOf 35 = 2 by kernel_rfl] at hl
  match cs, hl with
  | [c0, c1], _ =>
    obtain ⟨m, hf⟩ := opn_elems Try.underlying35 h
    rw [show Try.prog.cellsOf _ = 1 from cellsInt] at hf
    obtain ⟨_, h0⟩ := hf 0 (by decide)
    obtain ⟨_, h1⟩ := hf 1 (by decide)
    obtain ⟨k, e0, _⟩ := opn_int Try.underlying3 h0
    obtain ⟨j, e1, _⟩ := opn_int Try.underlying3 h1
    simp at e0 e1
    exact ⟨k, j, by rw [e0, e1]⟩
set_option maxRecDepth 100000 in
theorem open_dot2 (hok : Value.okWide Try.prog W .any base 46 v) (h : DataW.Trod enc Try.prog W 0 (fun _ => true) true 46 v d p) : ∃ a b : Dt, v = .agg #[.int .i64 a.dev, .int .i64 a.seq, .int .i64 b.dev, .int .i64 b.seq] := by
  obtain ⟨cs, rfl, hl, hcs⟩ := opn_agg (.inr ⟨_, _, Try.underlying46⟩) hok
  obtain ⟨n, h⟩ := h
  rw [hcs] at h
  rw [show Try.prog.cellsOf 46 = 4 by kernel_rfl] at hl
  match cs, hl with
  | [c0, c1, c2, c3], _ =>
    obtain ⟨m, hf⟩ := opn_elems Try.underlying46 h
    rw [show Try.prog.cellsOf _ = 2 from cellsDot] at hf
    obtain ⟨_, h0⟩ := hf 0 (by decide)
    obtain ⟨_, h1⟩ := hf 1 (by decide)
    obtain ⟨a, e0⟩ := opn_dot h0 rfl
    obtain ⟨b, e1⟩ := opn_dot h1 rfl
    simp at e0 e1
    exact ⟨a, b, by rw [e0.1, e0.2, e1.1, e1.2]⟩
end

theorem refHasV_b {vv : Value} {l : List Int} {dev seq : Int} {w : World} (b : Bool) (hb : hasV l ⟨dev, seq⟩ = b) (h : Rd w vv l.length (l.map ic)) :
    Calls Try.prog 18 #[vv, .agg #[.int .i64 dev, .int .i64 seq]] w fun e w' => e = .returned (.bool b) ∧ Below w.heap.size w w' := hb ▸ refHasV_any vv l ⟨dev, seq⟩ w h
theorem refHasP_b {kd k n : Int} {s : ByteArray} {va : Value} {l : List Prt} {dev seq : Int} {w : World} (b : Bool) (hb : hasP l ⟨dev, seq⟩ = b) (ha : PRd w va l) (hn : l.length ≤ 1000000) :
    Calls Try.prog 19 #[.agg #[.int .i64 kd, .int .i64 k, .int .i64 n, .string s, va], .agg #[.int .i64 dev, .int .i64 seq]] w fun e w' => e = .returned (.bool b) ∧ Below w.heap.size w w' := hb ▸ refHas_any kd ⟨k, n, s⟩ va l ⟨dev, seq⟩ w ha hn

def AtPost (w : World) (l : List Prt) (e : Ending) (w' : World) : Prop := ∃ a c, e = .returned (.slice a l.length c) ∧ PRd w' (.slice a l.length c) l ∧ Below w.heap.size w w'
set_option maxRecDepth 100000 in
set_option maxHeartbeats 4000000 in
theorem at_any {kd ck cn : Int} {cs : ByteArray} {va : Value} {l m : List Prt} {q : Int} {w : World} (ha : PRd w va l) (hn : l.length ≤ 1000) (hm : atN l q = m) :
    Calls Try.prog 20 #[.agg #[.int .i64 kd, .int .i64 ck, .int .i64 cn, .string cs, va], .int .i64 q] w (AtPost w m) := by
  obtain ⟨ao, cc, rfl, hnc, hcm, -, -⟩ := id ha
  have hb1 := below_alloc w (.cells #[.int .i64 kd, .int .i64 ck, .int .i64 cn, .string cs, .slice ao l.length cc] 26)
  obtain ⟨n, hln⟩ : ∃ n, l.length = n := ⟨_, rfl⟩
  have HA := Lib.hid ha
  have HLN := Lib.hid hln
  have HB1 := Lib.hid hb1
  have HM := Lib.hid hm
  rw [hln] at hnc hn HB1 ⊢
  unfold maxLen at hcm
  clear ha hln hb1 hm
  go_enter Try.func20, Try.ntmps20
  go_wp2_with fail
  go_loopw [5, 11] (fun vo vi wr => ∃ k : Nat, k ≤ n ∧ vi = .int .i64 k ∧ Hid (OwnP wr w.heap.size vo (atN (l.take k) q)) ∧ Hid (Below w.heap.size w wr)) (fun _ vi _ => n - (intOf vi).toNat)
  case atStart => exact ⟨0, Nat.zero_le _, rfl, World.ownsRow_nil _ _ _ _, HB1.out⟩
  case round =>
    obtain ⟨k, hk, rfl, ho, hbw⟩ := hrel
    rename World => wr
    by_cases hlt : k < n
    · have hkl : k < l.length := by have := HLN.out; omega
      obtain ⟨x, hx⟩ : ∃ x, l[k] = x := ⟨_, rfl⟩
      obtain ⟨b1, o1, x1, c0, c1, c2, c3, c4, c5, c6, c7, c8, c9, c10, _⟩ := rd_prt (HA.out.later hbw.out) rfl k hkl hx
      rw [HLN.out] at x1
      have hnx : atN (l.take (k + 1)) q = atN (l.take k) q ++ if decide (x.v.n = q) then [x] else [] := by
        unfold atN
        rw [List.take_succ_eq_append_getElem hkl, List.filter_append, hx]
        cases hp : decide (x.v.n = q) <;> simp [hp]
      have hol : (atN (l.take k) q).length ≤ k := by
        unfold atN
        exact Nat.le_trans (List.length_filter_le _ _) (by rw [List.length_take]; omega)
      have hbx := below_alloc wr (.cells #[.int .i64 x.v.k, .int .i64 x.v.n, .string x.v.s, .int .i64 x.d.dev, .int .i64 x.d.seq, .int .i64 x.at_, .int .i64 x.tm, .int .i64 x.aft.dev, .int .i64 x.aft.seq, .int .i64 x.aat, .bool x.gone] 43)
      have HOX := Lib.hid (own_later ho.out hbx)
      have HBX := Lib.hid (below_then hbw.out hbx)
      have HOL := Lib.hid hol
      clear hx hol hbx
      by_cases he : x.v.n = q
      · have hb : (x.v.n == q) = true := by simpa using he
        rw [decide_eq_true he, if_pos rfl] at hnx
        have HNX := Lib.hid hnx
        clear he hnx
        go_wp2_with (at_builtin; refine wpList_pushH elP rfl (.tmp 20) (.tmp 22) rfl (H := wr.heap.size + 1) (by simp) rfl rfl HOX.out rfl rfl (by have := HOL.out; simp only [maxLen]; omega) (by have := HOL.out; omega) HBX.out.size ?_; intro v4 w4 own4 grow4 _blk4; have HO4 := Lib.hid (own_snocP (x := x) own4); have HB4 := Lib.hid (HBX.out.grown grow4 HBX.out.size (fun kk hk => (HOX.out.lt kk hk).1)); clear own4 grow4 _blk4)
        go_roundw
        case rel => exact ⟨k + 1, by omega, by go_num, by rw [HNX.out]; exact HO4.out, HB4.out⟩
        case measure => simp [intOf]; omega
      · have hb : (x.v.n == q) = false := by simpa using he
        rw [decide_eq_false he, if_neg (by simp), List.append_nil] at hnx
        have HNX := Lib.hid hnx
        clear he hnx
        go_wp2_with fail
        go_roundw
        case rel => exact ⟨k + 1, by omega, by go_num, by rw [HNX.out]; exact HOX.out, HBX.out⟩
        case measure => simp [intOf]; omega
    · have hkn : k = n := by omega
      subst hkn
      have ho2 := ho.out
      rw [List.take_of_length_le (by have := HLN.out; omega), HM.out] at ho2
      obtain ⟨a1, c1, rfl, _⟩ := Rd.of_own ho2
      have HO2 := Lib.hid ho2
      have HBW := Lib.hid hbw.out
      clear ho ho2 hbw
      go_wp2_with fail
      go_ret
      exact ⟨a1, c1, rfl, Rd.of_own HO2.out, HBW.out⟩
end Go.Proofs.Ytnpciogpegmejaa
