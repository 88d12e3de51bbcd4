/-
  Layer 7 (multi): the laws' own test of a cell.
-/
import Derived.Test.YtagbaejgjhmokaaBY
namespace Go.Proofs.Ytagbaejgjhmokaa
open Go.RowKit Go.Sort Go.BigFrame

def rightC (l : List Prt) : Bool := decide ((l.length : Int) ≤ 60) && l.all (fun p => rightV p.v)
set_option maxRecDepth 100000 in
set_option maxHeartbeats 2000000 in
theorem lawRight_any (kd k n : Int) (s : ByteArray) (va : Value) (l : List Prt) (w : World) (ha : PRd w va l) :
    Calls Try.prog 22 #[.agg #[.int .i64 kd, .int .i64 k, .int .i64 n, .string s, va]] w fun e w' => e = .returned (.bool (rightC l)) ∧ Below w.heap.size w w' := by
  obtain ⟨ao, ca, rfl, -, hcm, -, -⟩ := id ha
  unfold maxLen at hcm
  obtain ⟨w1, hw1⟩ : ∃ w1, w.alloc (.cells #[.int .i64 kd, .int .i64 k, .int .i64 n, .string s, .slice ao l.length ca] 26) = w1 := ⟨_, rfl⟩
  have hb1 : Below w.heap.size w w1 := by rw [← hw1]; exact below_alloc _ _
  have b0 : Bx w1 w.heap.size #[.int .i64 kd, .int .i64 k, .int .i64 n, .string s, .slice ao l.length ca] 26 := by rw [← hw1]; exact bx_new rfl
  have HW := Lib.hid hw1
  have HB1 := Lib.hid hb1
  have B0 := Lib.hid b0
  have HP := Lib.hid (ha.later hb1)
  have c0 := cell_of_box b0 0 rfl
  have c1 := cell_of_box b0 1 rfl
  have c2 := cell_of_box b0 2 rfl
  have c3 := cell_of_box b0 3 rfl
  have c4 := cell_of_box b0 4 rfl
  clear ha hw1 hb1 b0
  cases hf : decide ((l.length : Int) ≤ 60)
  all_goals
    have HF := Lib.hid hf
    clear hf
    go_enter Try.func22, Try.ntmps22
    go_wp2_with fail
    rw [HW.out]
  · go_wp2_with fail
    refine (few_p false HF.out HP.out).mono ?_
    rintro e w2 ⟨rfl, hb2⟩
    have HB2 := Lib.hid hb2
    clear hb2
    go_wp2_with fail
    go_ret
    exact ⟨ret_bool (by unfold rightC; rw [HF.out]; rfl), below_then HB1.out HB2.out⟩
  · have hl60 : l.length ≤ 60 := by have := of_decide_eq_true HF.out; omega
    go_wp2_with fail
    refine (few_p true HF.out HP.out).mono ?_
    rintro e w2 ⟨rfl, hb2⟩
    have HB2 := Lib.hid hb2
    have d4 := cell_later hb2 c4
    clear hb2 c0 c1 c2 c3 c4
    go_wp2_with fail
    clear d4
    go_loopw [11] (fun vi wr => ∃ k : Nat, k ≤ l.length ∧ vi = .int .i64 k ∧ Hid (∀ p ∈ l.take k, rightV p.v = true) ∧ Hid (Ext w1 wr)) (fun vi _ => l.length - (intOf vi).toNat)
    case atStart => exact ⟨0, Nat.zero_le _, rfl, (fun p hp => by simp at hp), HB2.out⟩
    case round =>
      obtain ⟨k, hk, rfl, hall, hbw⟩ := hrel
      rename World => wr
      by_cases hlt : k < l.length
      · obtain ⟨x, hx⟩ : ∃ x, l[k] = x := ⟨_, rfl⟩
        obtain ⟨b1, o1, x1, e0, e1, e2, e3, e4, e5, e6, e7, e8, e9, e10, _⟩ := rd_prt (HP.out.later hbw.out) rfl k hlt hx
        have hbx := below_alloc wr (.cells #[.int .i64 x.v.k, .int .i64 x.v.n, .string x.v.s, .int .i64 x.d.dev, .int .i64 x.d.seq, .int .i64 x.at_, .int .i64 x.tm, .int .i64 x.aft.dev, .int .i64 x.aft.seq, .int .i64 x.aat, .bool x.gone] 32)
        have HBX := Lib.hid hbx
        have HX := Lib.hid hx
        clear hbx hx
        cases hv : rightV ⟨x.v.k, x.v.n, x.v.s⟩
        all_goals
          have HV := Lib.hid hv
          clear hv
        · go_wp2_with fail
          refine (refRightV_b false HV.out).mono ?_
          rintro e w3 ⟨rfl, hb3⟩
          have HB3 := Lib.hid hb3
          clear hb3
          go_wp2_with fail
          go_ret
          refine ⟨ret_bool ?_, below_then HB1.out (below_then hbw.out (below_then HBX.out HB3.out))⟩
          unfold rightC
          rw [HF.out, Bool.true_and]
          exact (List.all_eq_false.2 ⟨x, by rw [← HX.out]; exact List.getElem_mem hlt, by have := HV.out; simpa using this⟩).symm
        · go_wp2_with fail
          refine (refRightV_b true HV.out).mono ?_
          rintro e w3 ⟨rfl, hb3⟩
          have HB3 := Lib.hid (below_then hbw.out (below_then HBX.out hb3))
          clear hb3
          go_wp2_with fail
          go_roundw
          case rel =>
            refine ⟨k + 1, by omega, by go_num, fun p hp => ?_, HB3.out⟩
            rw [List.take_succ_eq_append_getElem hlt] at hp
            rcases List.mem_append.1 hp with hp | hp
            · exact hall.out p hp
            · rw [List.mem_singleton.1 hp, HX.out]; exact HV.out
          case measure => simp [intOf]; omega
      · have hkn : k = l.length := by omega
        subst hkn
        have he := hall.out
        rw [List.take_of_length_le (Nat.le_refl _)] at he
        have HE := Lib.hid he
        clear he
        go_wp2_with fail
        go_ret
        refine ⟨ret_bool ?_, below_then HB1.out hbw.out⟩
        unfold rightC
        rw [HF.out, Bool.true_and]
        exact (List.all_eq_true.2 HE.out).symm
theorem lawRight_b {kd k n : Int} {s : ByteArray} {va : Value} {l : List Prt} {w : World} (b : Bool) (hb : rightC l = b) (ha : PRd w va l) :
    Calls Try.prog 22 #[.agg #[.int .i64 kd, .int .i64 k, .int .i64 n, .string s, va]] w fun e w' => e = .returned (.bool b) ∧ Below w.heap.size w w' := by
  have := lawRight_any kd k n s va l w ha
  rw [hb] at this
  exact this
end Go.Proofs.Ytagbaejgjhmokaa
