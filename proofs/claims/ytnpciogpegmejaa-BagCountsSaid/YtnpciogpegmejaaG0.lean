/-
  Layer 9 (bag): contracts as the laws spell them; what the example comes to, plain. (printed by tools/gen_g1.py)
-/
import Derived.Test.YtnpciogpegmejaaGC
import Derived.Test.YtnpciogpegmejaaGL
import Derived.Test.YtnpciogpegmejaaGN
import Derived.Test.YtnpciogpegmejaaGR
import Derived.Test.YtnpciogpegmejaaMG
import Derived.Test.YtnpciogpegmejaaVC
namespace Go.Proofs.Ytnpciogpegmejaa
open Go.RowKit Go.Sort Go.BigFrame

set_option maxRecDepth 100000 in
set_option maxHeartbeats 4000000 in
theorem ints_same (va vb : Value) (l : List Int) (w : World) (ha : Rd w va l.length (l.map ic)) (hb : Rd w vb l.length (l.map ic)) (hn : l.length ≤ 1000000) :
    Calls Try.prog 30 #[va, vb] w fun e w' => e = .returned (.bool true) ∧ Below w.heap.size w w' := by
  obtain ⟨ao, ca, rfl, hnc, hcm, _, _⟩ := id ha
  obtain ⟨bo, cb, rfl, hnc', hcm', _, _⟩ := id hb
  have HA := Lib.hid ha
  have HC := Lib.hid hb
  obtain ⟨n, hln⟩ : ∃ n, l.length = n := ⟨_, rfl⟩
  have HLN := Lib.hid hln
  rw [hln] at hnc hnc' hn ⊢
  unfold maxLen at hcm hcm'
  clear ha hb hln
  go_enter Try.func30, Try.ntmps30
  go_wp2
  go_loopw [5] (fun vi wr => ∃ k : Nat, k ≤ n ∧ vi = .int .i64 k ∧ Hid (Below w.heap.size w wr)) (fun vi _ => n - (intOf vi).toNat)
  case atStart => exact ⟨0, Nat.zero_le _, rfl, Below.refl _ _⟩
  case round =>
    obtain ⟨k, hk, rfl, hbw⟩ := hrel
    rename World => wr
    by_cases hlt : k < n
    · have hkl : k < l.length := by have := HLN.out; omega
      obtain ⟨A1, x1, c0, _⟩ := rd_one elInts ic (HA.out.later hbw.out) rfl k hkl
      obtain ⟨A2, x2, d0, _⟩ := rd_one elInts ic (HC.out.later hbw.out) rfl k hkl
      obtain ⟨x, hx⟩ : ∃ x, l[k] = x := ⟨_, rfl⟩
      rw [HLN.out] at x1 x2
      rw [hx] at c0 d0
      clear hx
      go_wp2_with fail
      have kc0 := cell_regrown c0
      have kd0 := cell_regrown d0
      refine wp_region_quiet_below (by kernel_rfl) (by kernel_rfl) ?_
      repeat (go_big_quiet_step (first | fail))
      refine wpQuiet_nil ?_
      intro _ hw'
      obtain ⟨⟨dq, osq⟩, hw''⟩ := hw'
      subst hw''
      clear kc0 kd0
      have hb2 := below_regrown wr dq osq
      generalize grow (redrawn wr dq) osq = w2 at *
      replace c0 := cell_later hb2 c0
      replace d0 := cell_later hb2 d0
      have HB2 := Lib.hid (below_then hbw.out hb2)
      clear hb2
      go_wp2_with fail
      go_roundw
      case rel => exact ⟨k + 1, by omega, by go_num, HB2.out⟩
      case measure => simp [intOf]; omega
    · go_wp2_with fail
      go_ret
      exact ⟨rfl, hbw.out⟩

theorem put_o {kd k n : Int} {s : ByteArray} {va : Value} {l m : List Prt} {q dev seq : Int} {w : World} (ha : PRd w va l) (hn : l.length ≤ 1000) (hm : addQ l q ⟨dev, seq⟩ = m) :
    Calls Try.prog 15 #[.agg #[.int .i64 kd, .int .i64 k, .int .i64 n, .string s, va], .int .i64 q, .agg #[.int .i64 dev, .int .i64 seq]] w (CellO kd k n s w m) :=
  (bput_any kd k n s q va l ⟨dev, seq⟩ w ha hn).mono fun _ _ h => CellO.of h hm
theorem take_o {kd k n : Int} {s : ByteArray} {va : Value} {vk : Value} {l m : List Prt} {q dev seq : Int} (knew : List Int) {w : World} (ha : PRd w va l) (hk : Rd w vk knew.length (knew.map ic)) (hn : l.length ≤ 1000) (hm : takeQ l q ⟨dev, seq⟩ knew = m) :
    Calls Try.prog 17 #[.agg #[.int .i64 kd, .int .i64 k, .int .i64 n, .string s, va], .int .i64 q, .agg #[.int .i64 dev, .int .i64 seq], vk] w (CellO kd k n s w m) :=
  (take_any kd k n s q va vk l ⟨dev, seq⟩ knew w ha hk hn).mono fun _ _ h => CellO.of h hm
theorem numbers_p {kd k n : Int} {s : ByteArray} {va : Value} {l : List Prt} {M : List Int} {w : World} (ha : PRd w va l) (hn : l.length ≤ 1000) (hm : numsL l = M) :
    Calls Try.prog 31 #[.agg #[.int .i64 kd, .int .i64 k, .int .i64 n, .string s, va]] w (NumsPost w M) := hm ▸ numbers_any kd k n s va l w ha hn
theorem show_p {kd k n : Int} {s : ByteArray} {va : Value} {l : List Prt} {q : Int} {w : World} (ha : PRd w va l) (hn : l.length ≤ 1000) (hm : ((numsL l).length : Int) = q) :
    Calls Try.prog 23 #[.agg #[.int .i64 kd, .int .i64 k, .int .i64 n, .string s, va]] w fun e w' => e = .returned (.agg #[.int .i64 1, .int .i64 q, .string ⟨#[]⟩]) ∧ Below w.heap.size w w' := hm ▸ bshow_any kd k n s va l w ha hn
theorem hasN_b {kd k n : Int} {s : ByteArray} {va : Value} {l : List Prt} {q : Int} {w : World} (b : Bool) (hb : hasN l q = b) (ha : PRd w va l) (hn : l.length ≤ 1000000) :
    Calls Try.prog 16 #[.agg #[.int .i64 kd, .int .i64 k, .int .i64 n, .string s, va], .int .i64 q] w fun e w' => e = .returned (.bool b) ∧ Below w.heap.size w w' := hb ▸ bagHas_any kd ⟨k, n, s⟩ va l q w ha hn
theorem right_b {kd k n : Int} {s : ByteArray} {va : Value} {l : List Prt} {w : World} (b : Bool) (hb : rcQ kd ⟨k, n, s⟩ l = b) (ha : PRd w va l) (hn : l.length ≤ 1000000) :
    Calls Try.prog 10 #[.agg #[.int .i64 kd, .int .i64 k, .int .i64 n, .string s, va]] w fun e w' => e = .returned (.bool b) ∧ Below w.heap.size w w' := by
  refine (bright_any kd ⟨k, n, s⟩ va l w ha hn).mono ?_
  rintro e w' ⟨b', rfl, hb', h⟩
  refine ⟨ret_bool ?_, h⟩
  rw [← hb]
  exact Bool.eq_iff_iff.2 (hb'.trans rcQ_iff.symm)
def JoinPQ (w : World) (l : List Prt) (e : Ending) (w' : World) : Prop :=
  ∃ a c, e = .returned (.agg #[.int .i64 3, .int .i64 0, .int .i64 0, .string ⟨#[]⟩, .slice a l.length c]) ∧ PRd w' (.slice a l.length c) l ∧ Below w.heap.size w w'
theorem JoinPQ.of {w : World} {l m : List Prt} {e : Ending} {w' : World} (h : JoinPostQ w l e w') (hm : l = m) : JoinPQ w m e w' := by
  subst hm
  obtain ⟨v, rfl, ho, hb⟩ := h
  obtain ⟨a, c, rfl, _⟩ := id ho
  exact ⟨a, c, rfl, ho, hb⟩
theorem join_p {k1 ck cn k2 dk dn : Int} {cs ds : ByteArray} {va vb vk vl : Value} {a b m : List Prt} (ka kb : List Int) {w : World} (ha : PRd w va a) (hb : PRd w vb b) (hk : Rd w vk ka.length (ka.map ic)) (hl : Rd w vl kb.length (kb.map ic)) (hn : a.length ≤ 400) (hn' : b.length ≤ 400) (hm : joinQ a b ka kb = m) :
    Calls Try.prog 13 #[.agg #[.int .i64 k1, .int .i64 ck, .int .i64 cn, .string cs, va], .agg #[.int .i64 k2, .int .i64 dk, .int .i64 dn, .string ds, vb], vk, vl] w (JoinPQ w m) :=
  (bjoin_any k1 k2 ⟨ck, cn, cs⟩ ⟨dk, dn, ds⟩ va vb vk vl a b ka kb w ha hb hk hl (by omega) (by omega)).mono fun _ _ h => JoinPQ.of h hm
theorem same_p {kd k n : Int} {s : ByteArray} {va vb : Value} (l : List Prt) {w : World} (ha : PRd w va l) (hb : PRd w vb l) (hn : l.length ≤ 1000) :
    Calls Try.prog 12 #[.agg #[.int .i64 kd, .int .i64 k, .int .i64 n, .string s, va], .agg #[.int .i64 kd, .int .i64 k, .int .i64 n, .string s, vb]] w fun e w' => e = .returned (.bool true) ∧ Below w.heap.size w w' :=
  refSame_any kd ⟨k, n, s⟩ va vb l w ha hb (by omega)
theorem few_b {kd k n : Int} {s : ByteArray} {va : Value} {l : List Prt} {w : World} (b : Bool) (hb : decide ((l.length : Int) ≤ 60) = b) (ha : PRd w va l) :
    Calls Try.prog 9 #[.agg #[.int .i64 kd, .int .i64 k, .int .i64 n, .string s, va]] w fun e w' => e = .returned (.bool b) ∧ Below w.heap.size w w' := by
  obtain ⟨w1, hw1⟩ : ∃ w1, w.alloc (.cells #[.int .i64 kd, .int .i64 k, .int .i64 n, .string s, va] 26) = w1 := ⟨_, rfl⟩
  have hb1 : Below w.heap.size w w1 := by rw [← hw1]; exact below_alloc _ _
  have b0 : Bx w1 w.heap.size #[.int .i64 kd, .int .i64 k, .int .i64 n, .string s, va] 26 := by rw [← hw1]; exact bx_new rfl
  have hf := few_any kd ⟨k, n, s⟩ va l w1 (ha.later hb1)
  rw [hb] at hf
  have HF := Lib.hid hf
  have c0 := cell_of_box b0 0 rfl
  have c1 := cell_of_box b0 1 rfl
  have c2 := cell_of_box b0 2 rfl
  have c3 := cell_of_box b0 3 rfl
  have c4 := cell_of_box b0 4 rfl
  have HW := Lib.hid hw1
  have HB := Lib.hid hb1
  obtain ⟨ao, ca, rfl, _⟩ := id ha
  clear hb ha hw1 hb1 b0 hf
  go_enter Try.func9, Try.ntmps9
  go_wp2_with fail
  rw [HW.out]
  go_wp2_with fail
  refine HF.out.mono ?_
  rintro e w2 ⟨rfl, hb2⟩
  have HB2 := Lib.hid (below_then HB.out hb2)
  clear hb2 HF
  go_wp2_with fail
  go_ret
  exact ⟨rfl, HB2.out⟩

def pB1 : Prt := numP 5 ⟨1, 1⟩
def pB2 : Prt := numP 5 ⟨2, 1⟩
def pB3 : Prt := numP (-3) ⟨2, 1⟩
theorem al_p1 : addQ [] 5 ⟨1, 1⟩ = [pB1] := by decide +kernel
theorem al_p2 : addQ [pB1] 5 ⟨2, 1⟩ = [pB1, pB2] := by decide +kernel
theorem al_p3 : addQ [pB1, pB2] (-3) ⟨2, 1⟩ = [pB3, pB1, pB2] := by decide +kernel
theorem al_t1 : takeQ [pB3, pB1, pB2] 5 ⟨3, 1⟩ [1] = [pB3, pB2] := by decide +kernel
theorem al_t2 : takeQ [pB3, pB2] 5 ⟨3, 2⟩ [1, 1] = [pB3] := by decide +kernel
theorem al_j : joinQ [pB3, pB1, pB2] [pB3] [1, 1] [1, 1, 2] = [pB3] := by decide +kernel
theorem al_h1 : hasN [pB3, pB2] 5 = true := by decide +kernel
theorem al_h2 : hasN [pB3] 5 = false := by decide +kernel
theorem al_r1 : rcQ 3 ⟨0, 0, ⟨#[]⟩⟩ [pB3, pB1, pB2] = true := by decide +kernel
theorem al_r2 : rcQ 0 ⟨0, 0, ⟨#[]⟩⟩ [] = false := by decide +kernel
theorem al_n1 : numsL [pB3, pB1, pB2] = [-3, 5] := by
  refine asc_unique (numsL_asc _) (by decide) fun x => ?_
  rw [mem_numsL, hasN_iff]
  simp [pB1, pB2, pB3, numP, bareP]
  omega
theorem al_n2 : numsL [pB3] = [-3] := by
  refine asc_unique (numsL_asc _) (by decide) fun x => ?_
  rw [mem_numsL, hasN_iff]
  simp [pB3, numP, bareP]
  omega
end Go.Proofs.Ytnpciogpegmejaa
