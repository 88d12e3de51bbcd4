/-
  Layer 20 (past): texts joined by tools/join.py: XQE, XYE, XQG, XQO, XYJ.
-/
import Derived.Test.YtnolbabpkhdpmaaGreatN3
import Derived.Test.YtnolbabpkhdpmaaGreatNZ4
import Derived.KernelRfl
import Derived.Test.YtnolbabpkhdpmaaGreatN1
import Derived.Test.YtnolbabpkhdpmaaGreatUZ
import Derived.Test.YtnolbabpkhdpmaaGreatTS
import Derived.Test.YtnolbabpkhdpmaaGreatLaw
/- Layer 20 (past), plain: the chapter's example. -/
namespace Go.Proofs.YtnolbabpkhdpmaaGreat
open Go.RowKit Go.Sort

def awA : TxS := ⟨1, 1, 1, none, 0, 0, none, 0, 0, none, 0, 0, false, none, 0, 0, 0, 0, 0, [], [], [], []⟩
def awB (g : Nat) : TxS := ⟨2, 1, 2, some ⟨g, 0, none⟩, 1, 1, none, 0, 0, none, 0, 0, false, none, 0, 0, 0, 0, 0, [1], [], [], []⟩
def awK (g : Nat) : TxS := ⟨1, 2, 3, some ⟨g, 0, none⟩, 2, 2, none, 0, 0, none, 0, 0, false, none, 0, 0, 1, 2, 1, [1, 1], [], [], []⟩
def awO (g : Nat) : TxS := ⟨1, 3, 4, some ⟨g, 0, none⟩, 2, 2, none, 0, 0, none, 0, 0, false, none, 0, 0, 2, 2, 1, [2, 1], [], [], []⟩
section
variable (g h i : Nat)
theorem aw_bound : boundT [awB g, awA, awK h] 2 = (1, true) := by kernel_rfl
theorem aw_closed : closedT [] 0 [awB g, awA] = true := by kernel_rfl
theorem aw_open : closedT [] 0 [awB g] = false := by kernel_rfl
theorem aw_known : sameB (knownT [] [awB g, awA, awK h]) [2, 1] = true := by kernel_rfl
theorem aw_ord : ordT [awB g, awA, awK h] = [awA, awB g, awK h] := by kernel_rfl
theorem aw_past : pastT [awB g, awA, awK h] [1] = [awA] := by kernel_rfl
theorem aw_pastK : pastT [awB g, awA, awK h] [1, 1] = [awA, awB g] := by kernel_rfl
theorem aw_pastO : pastT [awB g, awA, awK h] [2, 1] = [awA, awB g, awK h] := by kernel_rfl
theorem aw_time : timeT [] 0 [awB g, awA, awK h] [2, 1] = 3 := by kernel_rfl
theorem aw_noteK : noteT [] [] [awB g, awA, awK h] 1 1 2 1 [1, 1] = true := by
  unfold noteT
  rw [aw_pastK, show wordT [awA, awB g] 2 = none from by kernel_rfl]
  rfl
theorem aw_sort : sortZ [1, 1, 2, 1] = [1, 1, 1, 2] := by simp [sortZ, List.mergeSort, List.MergeSort.Internal.splitInTwo]
theorem aw_sort2 : sortZ [1, 2, 1, 1] = [1, 1, 1, 2] := by simp [sortZ, List.mergeSort, List.MergeSort.Internal.splitInTwo]
theorem aw_memO : memT [] [] [awA, awB g, awK h] = [1, 2] := by
  unfold memT
  rw [show memL [] [] [awA, awB g, awK h] = [1, 1, 2, 1] from by kernel_rfl, aw_sort]
  kernel_rfl
theorem aw_mem : memT [] [] [awB g, awA, awK h] = [1, 2] := by
  unfold memT
  rw [show memL [] [] [awB g, awA, awK h] = [1, 2, 1, 1] from by kernel_rfl, aw_sort2]
  kernel_rfl
theorem aw_noteO : noteT [] [] [awB g, awA, awK h] 1 2 2 1 [2, 1] = true := by
  unfold noteT
  rw [aw_pastO, show wordT [awA, awB g, awK h] 2 = some (awK h) from by kernel_rfl]
  unfold retiresQ
  rw [aw_memO]
  have h1 : ([1, 2] : List Int).all (fun d => decide (d ∈ retT [awA, awB g, awK h] ++ [1, 2]) || agreedT [awA, awB g, awK h] d (awK h).dev (awK h).seq (awK h).whom) = true := by
    rw [List.all_eq_true]
    intro d hd
    have : d ∈ retT [awA, awB g, awK h] ++ [1, 2] := List.mem_append.2 (.inr hd)
    simp [this]
  refine (congrArg (fun r => noteQ 2 1 2 1 (ofV [2, 1] 2) true (awK h).note (awK h).upto (decide ((1 : Int) = 1) && (decide (ofV [2, 1] 2 = 1) && r))) h1).trans ?_
  kernel_rfl
theorem aw_ret : retT [awB g, awA, awK h, awO i] = [2] := by
  unfold retT
  rw [show retL (devT 1 [awB g, awA, awK h, awO i]) = [2] from by kernel_rfl, show sortZ [2] = [2] from by simp [sortZ]]
  kernel_rfl
end
end Go.Proofs.YtnolbabpkhdpmaaGreat
/- Layer 20 (past), the document: Few, Txs, Ints. (printed by tools/gen_ye.py) -/
namespace Go.Proofs.YtnolbabpkhdpmaaGreat
open Go.RowKit Go.Sort Go.BigFrame
attribute [local irreducible] FlowW

theorem TxS.Reads.ops' {W : World} {x : TxS} (h : x.Reads W) : ORd W (.slice x.ao x.no x.co) x.ops := ⟨h.hno ▸ h.ops, h.opsR⟩
theorem TxS.Reads.els' {W : World} {x : TxS} (h : x.Reads W) : ORd W (.slice x.ae x.ne x.ce) x.els := ⟨h.hne ▸ h.els, h.elsR⟩
theorem TxS.Reads.hands' {W : World} {x : TxS} (h : x.Reads W) : Rd W (.slice x.ah x.nh x.ch) x.hands.length (x.hands.flatMap HandT.cs) := h.hnh ▸ h.hands
set_option maxRecDepth 100000 in
set_option maxHeartbeats 8000000 in
theorem txs_any {va vb : Value} {l : List TxS} (w : World) (ha : LRd w va l) (hb : LRd w vb l) (hn : ∀ t ∈ l, t.nd ≤ 1000000000) :
    Calls Tryz.prog 17 #[va, vb] w fun e w' => e = .returned (.bool true) ∧ Below w.heap.size w w' := by
  obtain ⟨aa, ca, rfl, hac, ham, -, -⟩ := id ha.1
  obtain ⟨ab, cb, rfl, hbc, hbm, -, -⟩ := id hb.1
  unfold maxLen at ham hbm
  obtain ⟨n, hln⟩ : ∃ n, l.length = n := ⟨_, rfl⟩
  have HA := Lib.hid ha
  have HBL := Lib.hid hb
  have HLN := Lib.hid hln
  have HN := Lib.hid hn
  rw [hln] at hac hbc ⊢
  have hnn : ((n : Int) != (n : Int)) = false := by simp
  clear ha hb hln hn
  go_enter Tryz.func17, Tryz.ntmps17
  go_wp2_with fail
  go_loopw [5] (fun vi wr => ∃ k : Nat, k ≤ n ∧ vi = .int .i64 k ∧ Hid (Below w.heap.size w wr)) (fun vi _ => n - (intOf vi).toNat)
  case atStart => exact ⟨0, Nat.zero_le _, by go_num, Below.refl _ _⟩
  case round =>
    obtain ⟨k, hk, rfl, HB⟩ := hrel
    rename World => wr
    by_cases hlt : k < n
    · have hkl : k < l.length := by have := HLN.out; omega
      have hk2 : (k : Int) < (n : Int) := by omega
      obtain ⟨x, hx⟩ : ∃ x, l[k] = x := ⟨_, rfl⟩
      obtain ⟨b, oo, x1, c0, c1, c2, c3, c4, c5, c6, c7, c8, c9, c10, _⟩ := rd_txs ((HA.out.later HB.out).1) rfl k hkl hx
      obtain ⟨b2, oo2, x2, d0, d1, d2, d3, d4, d5, d6, d7, d8, d9, d10, _⟩ := rd_txs ((HBL.out.later HB.out).1) rfl k hkl hx
      rw [HLN.out] at x1 x2
      have hnx : x.nd ≤ 1000000000 := HN.out x (hx ▸ List.getElem_mem hkl)
      have HXR := Lib.hid (HA.out.2 x (hx ▸ List.getElem_mem hkl))
      clear hx
      go_wp2_with fail
      refine wp_region_flow (by kernel_rfl) 10 [(8, ⟨fun v => v = .bool true, fun _ _ _ _ => True⟩)] (by kernel_rfl) ?_ ?_ ?_
      · intro x hx
        simp only [List.mem_cons, List.not_mem_nil, or_false] at hx
        subst hx
        exact ⟨_, rfl⟩
      · intro x hx v lo hi w w' h hb
        simp only [List.mem_cons, List.not_mem_nil, or_false] at hx
        subst hx
        exact trivial
      · intro lo hi
        have kc0 := cell_regrown c0
        have kc1 := cell_regrown c1
        have kc2 := cell_regrown c2
        have kc3 := cell_regrown c3
        have kc4 := cell_regrown c4
        have kc5 := cell_regrown c5
        have kc6 := cell_regrown c6
        have kc7 := cell_regrown c7
        have kc8 := cell_regrown c8
        have kc9 := cell_regrown c9
        have kc10 := cell_regrown c10
        have kd0 := cell_regrown d0
        have kd1 := cell_regrown d1
        have kd2 := cell_regrown d2
        have kd3 := cell_regrown d3
        have kd4 := cell_regrown d4
        have kd5 := cell_regrown d5
        have kd6 := cell_regrown d6
        have kd7 := cell_regrown d7
        have kd8 := cell_regrown d8
        have kd9 := cell_regrown d9
        have kd10 := cell_regrown d10
        refine flowW_plain rfl ?_
        go_big_quiet_step (fail)
        refine wpQuiet_nil ?_
        refine flowW_plain rfl ?_
        go_big_quiet_step (fail)
        refine wpQuiet_nil ?_
        refine flowW_plain rfl ?_
        go_big_quiet_step (fail)
        refine wpQuiet_nil ?_
        refine flowW_plain rfl ?_
        go_big_quiet_step (fail)
        refine wpQuiet_nil ?_
        refine flowW_plain rfl ?_
        go_big_quiet_step (fail)
        refine wpQuiet_nil ?_
        refine flowW_plain rfl ?_
        go_big_quiet_step (fail)
        refine wpQuiet_nil ?_
        refine flowW_plain rfl ?_
        go_big_quiet_step (fail)
        refine wpQuiet_nil ?_
        refine flowW_plain rfl ?_
        go_big_quiet_step (fail)
        refine wpQuiet_nil ?_
        refine flowW_call rfl rfl ?_ ?_
        · intro W hW hF K hK
          clear kc0 kc1 kc2 kc3 kc4 kc5 kc6 kc7 kc8 kc9 kc10 kd0 kd1 kd2 kd3 kd4 kd5 kd6 kd7 kd8 kd9 kd10
          go_wp2_with fail
          refine (sameTx_any true x.fm x.deps x.ops x.els x.hands x.fm x.deps x.ops x.els x.hands _ HXR.out.hnd.symm HXR.out.hnh.symm (HXR.out.later (below_then HB.out hW)).deps' (HXR.out.later (below_then HB.out hW)).ops' (HXR.out.later (below_then HB.out hW)).els' (HXR.out.later (below_then HB.out hW)).hands' hnx HXR.out.hnd.symm HXR.out.hnh.symm (HXR.out.later (below_then HB.out hW)).deps' (HXR.out.later (below_then HB.out hW)).ops' (HXR.out.later (below_then HB.out hW)).els' (HXR.out.later (below_then HB.out hW)).hands' hnx ⟨fun _ => ⟨rfl, rfl, rfl, rfl, rfl, rfl, rfl, rfl, fun _ => rfl, rfl, rfl⟩, fun _ => rfl⟩).mono ?_
          rintro e wq ⟨rfl, hbq⟩
          go_wp2_with fail
          exact hK _ _ rfl trivial hbq
        rintro v rfl K hK
        go_simp
        refine hK _ ?_
        clear hK K
        refine flowW_plain rfl ?_
        go_big_quiet_step (fail)
        refine wpQuiet_nil ?_
        refine flowW_end fun w4 hw4 hF hD => ?_
        clear kc0 kc1 kc2 kc3 kc4 kc5 kc6 kc7 kc8 kc9 kc10 kd0 kd1 kd2 kd3 kd4 kd5 kd6 kd7 kd8 kd9 kd10
        simp only [List.drop_succ_cons, List.drop_zero]
        have HB4 := Lib.hid (below_then HB.out hw4)
        clear hw4 hF hD c0 c1 c2 c3 c4 c5 c6 c7 c8 c9 c10 d0 d1 d2 d3 d4 d5 d6 d7 d8 d9 d10 x1 x2
        go_wp2_with fail
        go_roundw
        case rel => exact ⟨k + 1, by omega, by go_num, HB4.out⟩
        case measure => simp [intOf]; omega
    · have hkn : n = k := by omega
      subst hkn
      have hk2 : ¬ (n : Int) < (n : Int) := by omega
      go_wp2_with fail
      go_ret
      exact ⟨rfl, HB.out⟩
theorem ints_any {va vb : Value} {l m : List Int} (w : World) (ha : Rd w va l.length (l.map ic)) (hb : Rd w vb m.length (m.map ic)) (hl : l.length ≤ 1000000) :
    Calls Tryz.prog 14 #[va, vb] w fun e w' => e = .returned (.bool (decide (l = m))) ∧ Below w.heap.size w w' := by
  have H := Lib.hid (sameI_any va vb l m w ha hb hl)
  clear ha hb hl
  go_enter Tryz.func14, Tryz.ntmps14
  go_wp2_with fail
  refine H.out.mono ?_
  rintro e w1 ⟨rfl, hb⟩
  have HB := Lib.hid hb
  clear hb
  go_wp2_with fail
  go_ret
  exact ⟨rfl, HB.out⟩
/-- Is a transaction of a size that is looked at? -/
def fewX (x : TxS) : Bool := (fewQ x.nd x.nh x.ops x.els && decide (x.nd ≤ 100)) && (decide (IntKind.i64.wrap (x.seq - ofV x.deps x.dev) ≤ 1000) && decide (x.seq ≤ 1000000))
def fewL (most : Int) (l : List TxS) : Bool := decide ((l.length : Int) ≤ most) && l.all fewX
theorem fewS_any {x : TxS} {w : World} (b : Bool) (hb : fewQ x.nd x.nh x.ops x.els = b) (h : x.Reads w) :
    Calls Tryz.prog 49 #[.agg #[.int .i64 x.dev, .int .i64 x.seq, .int .i64 x.time, .slice x.ad x.nd x.cd, .slice x.ao x.no x.co, .slice x.ae x.ne x.ce, .bool x.fm, .slice x.ah x.nh x.ch, .int .i64 x.note, .int .i64 x.whom, .int .i64 x.upto]] w fun e w' => e = .returned (.bool b) ∧ Below w.heap.size w w' := by
  have h1 := h.ops'
  have h2 := h.els'
  have h3 := h.hno
  have h4 := h.hne
  rw [h3] at h1 ⊢
  rw [h4] at h2 ⊢
  rw [← hb]
  exact fewT_any x.ops x.els w h1 h2
set_option maxRecDepth 100000 in
set_option maxHeartbeats 8000000 in
theorem fewL_any {va : Value} {l : List TxS} {most : Int} (w : World) (ha : LRd w va l) :
    Calls Tryz.prog 20 #[va, .int .i64 most] w fun e w' => e = .returned (.bool (fewL most l)) ∧ Below w.heap.size w w' := by
  obtain ⟨aa, ca, rfl, hac, ham, -, -⟩ := id ha.1
  unfold maxLen at ham
  obtain ⟨n, hln⟩ : ∃ n, l.length = n := ⟨_, rfl⟩
  have HA := Lib.hid ha
  have HLN := Lib.hid hln
  rw [hln] at hac ⊢
  clear ha hln
  by_cases hm : most < (n : Int)
  · have hm1 : decide (most < (n : Int)) = true := decide_eq_true hm
    have HRR : Hid (fewL most l = false) := by show _ = _; unfold fewL; rw [HLN.out, decide_eq_false (by omega)]; rfl
    go_enter Tryz.func20, Tryz.ntmps20
    go_wp2_with fail
    go_ret
    exact ⟨ret_bool HRR.out.symm, Below.refl _ _⟩
  have hm1 : decide (most < (n : Int)) = false := decide_eq_false hm
  have HMM : Hid (fewL most l = l.all fewX) := by show _ = _; unfold fewL; rw [HLN.out, decide_eq_true (by omega)]; rfl
  go_enter Tryz.func20, Tryz.ntmps20
  go_wp2_with fail
  go_loopw [5] (fun vi wr => ∃ k : Nat, k ≤ n ∧ vi = .int .i64 k ∧ Hid (∀ x ∈ l.take k, fewX x = true) ∧ Hid (Below w.heap.size w wr)) (fun vi _ => n - (intOf vi).toNat)
  case atStart => exact ⟨0, Nat.zero_le _, by go_num, (fun x hx => by simp at hx), Below.refl _ _⟩
  case round =>
    obtain ⟨k, hk, rfl, hall, HB⟩ := hrel
    rename World => wr
    by_cases hlt : k < n
    · have hkl : k < l.length := by have := HLN.out; omega
      have hk2 : (k : Int) < (n : Int) := by omega
      obtain ⟨x, hx⟩ : ∃ x, l[k] = x := ⟨_, rfl⟩
      obtain ⟨b, oo, x1, c0, c1, c2, c3, c4, c5, c6, c7, c8, c9, c10, _⟩ := rd_txs ((HA.out.later HB.out).1) rfl k hkl hx
      rw [HLN.out] at x1
      have hxm : x ∈ l := hx ▸ List.getElem_mem hkl
      have HXM := Lib.hid hxm
      have HXR := Lib.hid (HA.out.2 x hxm)
      have HNX : Hid (l.take (k + 1) = l.take k ++ [x]) := by show _ = _; rw [List.take_succ_eq_append_getElem hkl, hx]
      have hnot : fewX x = false → l.all fewX = false := fun h => List.all_eq_false.2 ⟨x, hxm, by rw [h]; decide⟩
      have HNOT := Lib.hid hnot
      clear hx hxm hnot
      cases hfq : fewQ x.nd x.nh x.ops x.els
      · have HFQ := Lib.hid hfq
        have HFX : Hid (fewX x = false) := by show _ = _; unfold fewX; rw [hfq]; rfl
        clear hfq
        go_wp2_with fail
        refine (fewS_any false HFQ.out (HXR.out.later HB.out)).mono ?_
        rintro e w2 ⟨rfl, hb2⟩
        have HB2 := Lib.hid (below_then HB.out hb2)
        clear hb2 c0 c1 c2 c3 c4 c5 c6 c7 c8 c9 c10
        go_wp2_with fail
        go_ret
        exact ⟨ret_bool (by rw [HMM.out, HNOT.out HFX.out]), HB2.out⟩
      have HFQ := Lib.hid hfq
      go_wp2_with fail
      refine (fewS_any true HFQ.out (HXR.out.later HB.out)).mono ?_
      rintro e w2 ⟨rfl, hb2⟩
      have HB2 := Lib.hid (below_then HB.out hb2)
      replace c0 := cell_later hb2 c0
      replace c1 := cell_later hb2 c1
      replace c2 := cell_later hb2 c2
      replace c3 := cell_later hb2 c3
      replace c4 := cell_later hb2 c4
      replace c5 := cell_later hb2 c5
      replace c6 := cell_later hb2 c6
      replace c7 := cell_later hb2 c7
      replace c8 := cell_later hb2 c8
      replace c9 := cell_later hb2 c9
      replace c10 := cell_later hb2 c10
      clear hb2
      by_cases hd : x.nd ≤ 100
      case neg =>
        have hd2 : decide ((100 : Int) < (x.nd : Int)) = true := decide_eq_true (by omega)
        have hd3 : decide (100 < x.nd) = true := decide_eq_true (by omega)
        have HFX : Hid (fewX x = false) := by show _ = _; unfold fewX; rw [decide_eq_false hd]; simp
        clear hd hfq
        go_wp2_with fail
        go_ret
        exact ⟨ret_bool (by rw [HMM.out, HNOT.out HFX.out]), HB2.out⟩
      have hd2 : decide ((100 : Int) < (x.nd : Int)) = false := decide_eq_false (by omega)
      have hd3 : decide (100 < x.nd) = false := decide_eq_false (by omega)
      obtain ⟨f, hf⟩ : ∃ f, ofV x.deps x.dev = f := ⟨_, rfl⟩
      obtain ⟨g, hg⟩ : ∃ g, IntKind.i64.wrap (x.seq - f) = g := ⟨_, rfl⟩
      have hfx : fewX x = (decide (g ≤ 1000) && decide (x.seq ≤ 1000000)) := by unfold fewX; rw [hfq, decide_eq_true hd, hf, hg]; rfl
      have HF0 := Lib.hid hf
      clear hf hfq hd
      go_wp2_with fail
      by_cases h1 : g ≤ 1000
      case neg =>
        have h1' : decide (1000 < g) = true := decide_eq_true (by omega)
        have HFX : Hid (fewX x = false) := by show _ = _; rw [hfx, decide_eq_false h1]; rfl
        clear hfx h1
        refine wp_region_flow (by kernel_rfl) 26 [(15, ⟨fun v => v = .int .i64 f, fun _ _ _ _ => True⟩)] (by kernel_rfl) ?_ ?_ ?_
        · intro x hx
          simp only [List.mem_cons, List.not_mem_nil, or_false] at hx
          subst hx
          exact ⟨_, rfl⟩
        · intro x hx v lo hi w w' h hb
          simp only [List.mem_cons, List.not_mem_nil, or_false] at hx
          subst hx
          exact trivial
        · intro lo hi
          have kc0 := cell_regrown c0
          have kc1 := cell_regrown c1
          have kc2 := cell_regrown c2
          have kc3 := cell_regrown c3
          have kc4 := cell_regrown c4
          have kc5 := cell_regrown c5
          have kc6 := cell_regrown c6
          have kc7 := cell_regrown c7
          have kc8 := cell_regrown c8
          have kc9 := cell_regrown c9
          have kc10 := cell_regrown c10
          refine flowW_plain rfl ?_
          go_big_quiet_step (fail)
          refine wpQuiet_nil ?_
          refine flowW_plain rfl ?_
          go_big_quiet_step (fail)
          refine wpQuiet_nil ?_
          refine flowW_plain rfl ?_
          go_big_quiet_step (fail)
          refine wpQuiet_nil ?_
          refine flowW_plain rfl ?_
          go_big_quiet_step (fail)
          refine wpQuiet_nil ?_
          refine flowW_plain rfl ?_
          go_big_quiet_step (fail)
          refine wpQuiet_nil ?_
          refine flowW_plain rfl ?_
          go_big_quiet_step (fail)
          refine wpQuiet_nil ?_
          refine flowW_plain rfl ?_
          go_big_quiet_step (fail)
          refine wpQuiet_nil ?_
          refine flowW_plain rfl ?_
          go_big_quiet_step (fail)
          refine wpQuiet_nil ?_
          refine flowW_plain rfl ?_
          go_big_quiet_step (fail)
          refine wpQuiet_nil ?_
          refine flowW_plain rfl ?_
          go_big_quiet_step (fail)
          refine wpQuiet_nil ?_
          refine flowW_plain rfl ?_
          go_big_quiet_step (fail)
          refine wpQuiet_nil ?_
          refine flowW_plain rfl ?_
          go_big_quiet_step (fail)
          refine wpQuiet_nil ?_
          refine flowW_plain rfl ?_
          go_big_quiet_step (fail)
          refine wpQuiet_nil ?_
          refine flowW_plain rfl ?_
          go_big_quiet_step (fail)
          refine wpQuiet_nil ?_
          refine flowW_plain rfl ?_
          go_big_quiet_step (fail)
          refine wpQuiet_nil ?_
          refine flowW_call rfl rfl ?_ ?_
          · intro W hW hF K hK
            clear kc0 kc1 kc2 kc3 kc4 kc5 kc6 kc7 kc8 kc9 kc10
            go_wp2_with fail
            refine (HF0.out ▸ refOfV_any _ x.deps x.dev _ (HXR.out.later (below_then HB2.out hW)).deps').mono ?_
            rintro e wq ⟨rfl, rfl⟩
            go_wp2_with fail
            exact hK _ _ rfl trivial (Below.refl _ _)
          rintro v rfl K hK
          go_simp
          refine hK _ ?_
          clear hK K
          refine flowW_plain rfl ?_
          go_big_quiet_step (fail)
          refine wpQuiet_nil ?_
          refine flowW_plain rfl ?_
          go_big_quiet_step (fail)
          refine wpQuiet_nil ?_
          refine flowW_plain rfl ?_
          go_big_quiet_step (fail)
          refine wpQuiet_nil ?_
          refine flowW_skip rfl ?_
          go_big_quiet_step (fail)
          refine wpQuiet_nil ?_
          refine flowW_skip rfl ?_
          go_big_quiet_step (fail)
          refine wpQuiet_nil ?_
          refine flowW_skip rfl ?_
          go_big_quiet_step (fail)
          refine wpQuiet_nil ?_
          refine flowW_skip rfl ?_
          go_big_quiet_step (fail)
          refine wpQuiet_nil ?_
          refine flowW_skip rfl ?_
          go_big_quiet_step (fail)
          refine wpQuiet_nil ?_
          refine flowW_skip rfl ?_
          go_big_quiet_step (fail)
          refine wpQuiet_nil ?_
          refine flowW_plain rfl ?_
          go_big_quiet_step (fail)
          refine wpQuiet_nil ?_
          refine flowW_end fun w4 hw4 hF hD => ?_
          clear kc0 kc1 kc2 kc3 kc4 kc5 kc6 kc7 kc8 kc9 kc10
          simp only [List.drop_succ_cons, List.drop_zero]
          have HB4 := Lib.hid (below_then HB2.out hw4)
          clear hw4 hF hD c0 c1 c2 c3 c4 c5 c6 c7 c8 c9 c10 x1
          go_wp2_with fail
          go_ret
          exact ⟨ret_bool (by rw [HMM.out, HNOT.out HFX.out]), HB4.out⟩
      have h1' : decide (1000 < g) = false := decide_eq_false (by omega)
      obtain ⟨u, hu⟩ : ∃ u, decide (1000000 < x.seq) = u := ⟨_, rfl⟩
      have HFX : Hid (fewX x = !u) := by
        show _ = _
        rw [hfx, decide_eq_true h1, ← hu, Bool.true_and]
        by_cases h : 1000000 < x.seq
        · rw [decide_eq_true h, decide_eq_false (by omega)]; rfl
        · rw [decide_eq_false h, decide_eq_true (by omega)]; rfl
      clear hfx h1
      refine wp_region_flow (by kernel_rfl) 26 [(15, ⟨fun v => v = .int .i64 f, fun _ _ _ _ => True⟩)] (by kernel_rfl) ?_ ?_ ?_
      · intro x hx
        simp only [List.mem_cons, List.not_mem_nil, or_false] at hx
        subst hx
        exact ⟨_, rfl⟩
      · intro x hx v lo hi w w' h hb
        simp only [List.mem_cons, List.not_mem_nil, or_false] at hx
        subst hx
        exact trivial
      · intro lo hi
        have kc0 := cell_regrown c0
        have kc1 := cell_regrown c1
        have kc2 := cell_regrown c2
        have kc3 := cell_regrown c3
        have kc4 := cell_regrown c4
        have kc5 := cell_regrown c5
        have kc6 := cell_regrown c6
        have kc7 := cell_regrown c7
        have kc8 := cell_regrown c8
        have kc9 := cell_regrown c9
        have kc10 := cell_regrown c10
        refine flowW_plain rfl ?_
        go_big_quiet_step (fail)
        refine wpQuiet_nil ?_
        refine flowW_plain rfl ?_
        go_big_quiet_step (fail)
        refine wpQuiet_nil ?_
        refine flowW_plain rfl ?_
        go_big_quiet_step (fail)
        refine wpQuiet_nil ?_
        refine flowW_plain rfl ?_
        go_big_quiet_step (fail)
        refine wpQuiet_nil ?_
        refine flowW_plain rfl ?_
        go_big_quiet_step (fail)
        refine wpQuiet_nil ?_
        refine flowW_plain rfl ?_
        go_big_quiet_step (fail)
        refine wpQuiet_nil ?_
        refine flowW_plain rfl ?_
        go_big_quiet_step (fail)
        refine wpQuiet_nil ?_
        refine flowW_plain rfl ?_
        go_big_quiet_step (fail)
        refine wpQuiet_nil ?_
        refine flowW_plain rfl ?_
        go_big_quiet_step (fail)
        refine wpQuiet_nil ?_
        refine flowW_plain rfl ?_
        go_big_quiet_step (fail)
        refine wpQuiet_nil ?_
        refine flowW_plain rfl ?_
        go_big_quiet_step (fail)
        refine wpQuiet_nil ?_
        refine flowW_plain rfl ?_
        go_big_quiet_step (fail)
        refine wpQuiet_nil ?_
        refine flowW_plain rfl ?_
        go_big_quiet_step (fail)
        refine wpQuiet_nil ?_
        refine flowW_plain rfl ?_
        go_big_quiet_step (fail)
        refine wpQuiet_nil ?_
        refine flowW_plain rfl ?_
        go_big_quiet_step (fail)
        refine wpQuiet_nil ?_
        refine flowW_call rfl rfl ?_ ?_
        · intro W hW hF K hK
          clear kc0 kc1 kc2 kc3 kc4 kc5 kc6 kc7 kc8 kc9 kc10
          go_wp2_with fail
          refine (HF0.out ▸ refOfV_any _ x.deps x.dev _ (HXR.out.later (below_then HB2.out hW)).deps').mono ?_
          rintro e wq ⟨rfl, rfl⟩
          go_wp2_with fail
          exact hK _ _ rfl trivial (Below.refl _ _)
        rintro v rfl K hK
        go_simp
        refine hK _ ?_
        clear hK K
        refine flowW_plain rfl ?_
        go_big_quiet_step (fail)
        refine wpQuiet_nil ?_
        refine flowW_plain rfl ?_
        go_big_quiet_step (fail)
        refine wpQuiet_nil ?_
        refine flowW_plain rfl ?_
        go_big_quiet_step (fail)
        refine wpQuiet_nil ?_
        refine flowW_plain rfl ?_
        go_big_quiet_step (fail)
        refine wpQuiet_nil ?_
        refine flowW_plain rfl ?_
        go_big_quiet_step (fail)
        refine wpQuiet_nil ?_
        refine flowW_plain rfl ?_
        go_big_quiet_step (fail)
        refine wpQuiet_nil ?_
        refine flowW_plain rfl ?_
        go_big_quiet_step (fail)
        refine wpQuiet_nil ?_
        refine flowW_plain rfl ?_
        go_big_quiet_step (fail)
        refine wpQuiet_nil ?_
        refine flowW_plain rfl ?_
        go_big_quiet_step (fail)
        refine wpQuiet_nil ?_
        refine flowW_plain rfl ?_
        go_big_quiet_step (fail)
        refine wpQuiet_nil ?_
        refine flowW_end fun w4 hw4 hF hD => ?_
        clear kc0 kc1 kc2 kc3 kc4 kc5 kc6 kc7 kc8 kc9 kc10
        simp only [List.drop_succ_cons, List.drop_zero]
        have HB4 := Lib.hid (below_then HB2.out hw4)
        clear hw4 hF hD c0 c1 c2 c3 c4 c5 c6 c7 c8 c9 c10 x1
        cases u
        · go_wp2_with fail
          go_roundw
          case rel => exact ⟨k + 1, by omega, by go_num, (by show ∀ _, _; rw [HNX.out]; intro y hy; rcases List.mem_append.1 hy with hy | hy; exact hall.out y hy; rw [List.mem_singleton.1 hy]; exact HFX.out), HB4.out⟩
          case measure => simp [intOf]; omega
        · go_wp2_with fail
          go_ret
          exact ⟨ret_bool (by rw [HMM.out, HNOT.out HFX.out]), HB4.out⟩
    · have hkn : n = k := by omega
      subst hkn
      have hk2 : ¬ (n : Int) < (n : Int) := by omega
      have hal := hall.out
      rw [List.take_of_length_le (by have := HLN.out; omega)] at hal
      have HF : Hid (l.all fewX = true) := List.all_eq_true.2 hal
      clear hal
      go_wp2_with fail
      go_ret
      exact ⟨ret_bool (by rw [HMM.out, HF.out]), HB.out⟩
theorem few20_any {va : Value} {l : List TxS} (w : World) (ha : LRd w va l) :
    Calls Tryz.prog 5 #[va] w fun e w' => e = .returned (.bool (fewL 20 l)) ∧ Below w.heap.size w w' := by
  have H := Lib.hid (fewL_any (most := 20) w ha)
  clear ha
  go_enter Tryz.func5, Tryz.ntmps5
  go_wp2_with fail
  refine H.out.mono ?_
  rintro e w1 ⟨rfl, hb⟩
  have HB := Lib.hid hb
  clear hb
  go_wp2_with fail
  go_ret
  exact ⟨rfl, HB.out⟩
end Go.Proofs.YtnolbabpkhdpmaaGreat
/- Layer 20 (past): awake. (printed by tools/gen_qg.py) -/
namespace Go.Proofs.YtnolbabpkhdpmaaGreat
open Go.RowKit Go.Sort Go.BigFrame
attribute [local irreducible] FlowW

theorem of20_any {a b c : Int} {ad : Option Addr} {nd cd : Nat} (w : World) : Calls Tryz.prog 8 #[.int .i64 a, .int .i64 b, .int .i64 c, .slice ad nd cd] w fun e w' => e = .returned (.agg #[.int .i64 a, .int .i64 b, .int .i64 c, .slice ad nd cd, .slice none 0 0, .slice none 0 0, .bool false, .slice none 0 0, .int .i64 0, .int .i64 0, .int .i64 0]) ∧ Below w.heap.size w w' := by
  go_enter Tryz.func8, Tryz.ntmps8
  go_wp2
  exact bodyPost_ret (v := .agg #[.int .i64 a, .int .i64 b, .int .i64 c, .slice ad nd cd, .slice none 0 0, .slice none 0 0, .bool false, .slice none 0 0, .int .i64 0, .int .i64 0, .int .i64 0]) (by simp [results, Tryz.results8, go_sem]) rfl ⟨rfl, below_alloc _ _⟩
theorem wpList_app_fullG {P : Program} {w : World} {ops : Array Oper} {rest : List Oper} {o : Oper} {a : Act} {Q : Exit → Act → World → Prop}
    {t tx e : TypeId} {size bytes : Nat} {z : Value} (T : El P t e size bytes z) (hx : ∃ d, P.underlying tx = some d ∧ ∀ k, d ≠ .int k)
    (hg : Region.wanted o (yielded ops a.tmps) = true) (s x : Operand) (hop : o.op = Op.call { callee := Callee.builtin Builtin.append, args := #[s, x], argTypes := #[t, tx] })
    {ao : Option Addr} {y : Value} {n m : Nat} {xs news : List Value} (hsv : a.eval s = .slice ao n n) (hxy : a.eval x = y) (hrd : Rd w (.slice ao n n) n xs) (hlx : xs.length = n * size) (hs : Src P w size y m news)
    (h63 : n + m ≤ maxLen) (hbytes : (n + m) * bytes ≤ 140737488355328)
    (hK : ∀ v' w', Rd w' v' (n + m) (xs ++ news) → Below w.heap.size w w' → wpList P ops Q rest (a.put o.dst v') w') :
    wpList P ops Q (o :: rest) a w := by
  unfold wpList
  rw [if_pos hg]
  refine .inl ?_
  obtain ⟨v', w', hrun, r1, r2, r3⟩ := run_app_full (P := P) w (ty := o.type) T hx hrd hlx hs h63 hbytes
  unfold Oper.wp
  simp [execOp, hop, resolve, invoke, builtin, hsv, hxy, hrun, Result.andThen]
  exact hK v' w' r1 ((Below.refl _ _).grown r2 (Nat.le_refl _) (fun k h => nomatch h))
structure AW (pa pb pk po gb gk go gl : Nat) (W : World) : Prop where
  aB : Bx W pa #[.int .i64 1, .int .i64 1, .int .i64 1, .slice none 0 0, .slice none 0 0, .slice none 0 0, .bool false, .slice none 0 0, .int .i64 0, .int .i64 0, .int .i64 0] 31
  bB : Bx W pb #[.int .i64 2, .int .i64 1, .int .i64 2, .slice (some ⟨gb, 0, none⟩) 1 1, .slice none 0 0, .slice none 0 0, .bool false, .slice none 0 0, .int .i64 0, .int .i64 0, .int .i64 0] 31
  kB : Bx W pk #[.int .i64 1, .int .i64 2, .int .i64 3, .slice (some ⟨gk, 0, none⟩) 2 2, .slice none 0 0, .slice none 0 0, .bool false, .slice none 0 0, .int .i64 1, .int .i64 2, .int .i64 1] 31
  oB : Bx W po #[.int .i64 1, .int .i64 3, .int .i64 4, .slice (some ⟨go, 0, none⟩) 2 2, .slice none 0 0, .slice none 0 0, .bool false, .slice none 0 0, .int .i64 2, .int .i64 2, .int .i64 1] 31
  b1 : Bx W gb #[.int .i64 1] 3
  k1 : Bx W gk #[.int .i64 1, .int .i64 1] 3
  o1 : Bx W go #[.int .i64 2, .int .i64 1] 3
  l1 : Bx W gl #[.int .i64 2, .int .i64 1, .int .i64 2, .slice (some ⟨gb, 0, none⟩) 1 1, .slice none 0 0, .slice none 0 0, .bool false, .slice none 0 0, .int .i64 0, .int .i64 0, .int .i64 0, .int .i64 1, .int .i64 1, .int .i64 1, .slice none 0 0, .slice none 0 0, .slice none 0 0, .bool false, .slice none 0 0, .int .i64 0, .int .i64 0, .int .i64 0, .int .i64 1, .int .i64 2, .int .i64 3, .slice (some ⟨gk, 0, none⟩) 2 2, .slice none 0 0, .slice none 0 0, .bool false, .slice none 0 0, .int .i64 1, .int .i64 2, .int .i64 1] 31
theorem AW.later {pa pb pk po gb gk go gl : Nat} {W W' : World} (h : AW pa pb pk po gb gk go gl W) (hb : Below W.heap.size W W') : AW pa pb pk po gb gk go gl W' :=
  ⟨bx_later hb h.aB, bx_later hb h.bB, bx_later hb h.kB, bx_later hb h.oB, bx_later hb h.b1, bx_later hb h.k1, bx_later hb h.o1, bx_later hb h.l1⟩
theorem rd_nilT (w : World) : Rd w (.slice none 0 0) 0 [] := ⟨none, 0, rfl, Nat.le_refl _, Nat.zero_le _, fun _ => rfl, fun _ ha => nomatch ha⟩
theorem rd_of_bxT {w : World} {g : Nat} {cs : Array Value} {T : TypeId} (h : Bx w g cs T) (n : Nat) (hn : n ≤ maxLen) : Rd w (.slice (some ⟨g, 0, none⟩) n n) n cs.toList := by
  refine ⟨_, _, rfl, Nat.le_refl _, hn, (fun h => nomatch h), fun a ha => ?_⟩
  cases ha
  intro j u hj
  have h1 := cell_of_box h j (v := u) (by simpa using hj)
  rw [Addr.add_lit, Nat.zero_add]
  exact h1
section
variable {pa pb pk po gb gk go gl : Nat} {W : World} (h : AW pa pb pk po gb gk go gl W)
include h
theorem AW.rb : Rd W (.slice (some ⟨gb, 0, none⟩) 1 1) 1 (([1] : List Int).map ic) := rd_of_bxT h.b1 1 (by decide)
theorem AW.rk : Rd W (.slice (some ⟨gk, 0, none⟩) 2 2) 2 (([1, 1] : List Int).map ic) := rd_of_bxT h.k1 2 (by decide)
theorem AW.ro : Rd W (.slice (some ⟨go, 0, none⟩) 2 2) 2 (([2, 1] : List Int).map ic) := rd_of_bxT h.o1 2 (by decide)
omit h in
theorem awA_reads (W : World) : awA.Reads W := ⟨rd_nilT W, rfl, rd_nilT W, rfl, (fun _ h => nomatch h), rd_nilT W, rfl, (fun _ h => nomatch h), rd_nilT W, rfl⟩
theorem AW.b : (awB gb).Reads W := ⟨h.rb, rfl, rd_nilT W, rfl, (fun _ h => nomatch h), rd_nilT W, rfl, (fun _ h => nomatch h), rd_nilT W, rfl⟩
theorem AW.k : (awK gk).Reads W := ⟨h.rk, rfl, rd_nilT W, rfl, (fun _ h => nomatch h), rd_nilT W, rfl, (fun _ h => nomatch h), rd_nilT W, rfl⟩
theorem AW.o : (awO go).Reads W := ⟨h.ro, rfl, rd_nilT W, rfl, (fun _ h => nomatch h), rd_nilT W, rfl, (fun _ h => nomatch h), rd_nilT W, rfl⟩
theorem AW.each : ∀ t ∈ [awA, awB gb, awK gk, awO go], t.Reads W := by
  intro t ht
  simp only [List.mem_cons, List.not_mem_nil, or_false] at ht
  rcases ht with rfl | rfl | rfl | rfl
  · exact awA_reads W
  · exact h.b
  · exact h.k
  · exact h.o
theorem AW.lrd {g n : Nat} {cs : Array Value} {l : List TxS} (hb : Bx W g cs 31) (hn : n = l.length) (hc : cs.toList = txsCs l) (hl : ∀ t ∈ l, t ∈ [awA, awB gb, awK gk, awO go]) (hm : n ≤ 1000) : LRd W (.slice (some ⟨g, 0, none⟩) n n) l := by
  subst hn
  refine ⟨?_, fun t ht => h.each t (hl t ht)⟩
  rw [← hc]
  exact rd_of_bxT hb _ (by unfold maxLen; omega)
theorem AW.l : LRd W (.slice (some ⟨gl, 0, none⟩) 3 3) [awB gb, awA, awK gk] := h.lrd h.l1 rfl rfl (by simp) (by simp)
end
theorem ofV_nil (d : Int) : ofV [] d = 0 := by
  unfold ofV
  split <;> simp
set_option maxRecDepth 100000 in
set_option maxHeartbeats 8000000 in
theorem awk_any (w : World) : Calls Tryz.prog 4 #[] w fun e w' => e = .returned (.bool true) ∧ Below w.heap.size w w' := by
  go_enter Tryz.func4, Tryz.ntmps4
  go_wp2_with fail
  refine (of20_any _).mono ?_
  rintro e w1 ⟨rfl, hb1⟩
  have HB1 := Lib.hid hb1
  clear hb1
  go_wp2_with fail
  obtain ⟨w2, hw2⟩ : ∃ w2, (w1.alloc (.cells #[.int .i64 1, .int .i64 1, .int .i64 1, .slice none 0 0, .slice none 0 0, .slice none 0 0, .bool false, .slice none 0 0, .int .i64 0, .int .i64 0, .int .i64 0] 31)).alloc (.cells #[.int .i64 1] 3) = w2 := ⟨_, rfl⟩
  obtain ⟨pa, hpa⟩ : ∃ pa, w1.heap.size = pa := ⟨_, rfl⟩
  obtain ⟨gb, hgb⟩ : ∃ gb, pa + 1 = gb := ⟨_, rfl⟩
  have aB : Bx w2 pa #[.int .i64 1, .int .i64 1, .int .i64 1, .slice none 0 0, .slice none 0 0, .slice none 0 0, .bool false, .slice none 0 0, .int .i64 0, .int .i64 0, .int .i64 0] 31 := by rw [← hw2, ← hpa]; exact bx_later (below_alloc _ _) (bx_new rfl)
  have b1 : Bx w2 gb #[.int .i64 1] 3 := by rw [← hw2, ← hgb, ← hpa]; exact bx_new (by simp)
  have HB2 : Hid (Below w.heap.size w w2) := by show Below _ _ _; rw [← hw2]; exact below_then HB1.out (below_then (below_alloc _ _) (below_alloc _ _))
  rw [hw2, hpa, hgb]
  have HaB := Lib.hid aB
  have Hb1 := Lib.hid b1
  clear hw2 hpa hgb aB b1
  refine (of20_any _).mono ?_
  rintro e w3 ⟨rfl, hb3⟩
  have HB3 := Lib.hid (below_then HB2.out hb3)
  replace HaB := Lib.hid (bx_later hb3 HaB.out)
  replace Hb1 := Lib.hid (bx_later hb3 Hb1.out)
  clear hb3
  go_wp2_with fail
  obtain ⟨w4, hw4⟩ : ∃ w4, (w3.alloc (.cells #[.int .i64 2, .int .i64 1, .int .i64 2, .slice (some ⟨gb, 0, none⟩) 1 1, .slice none 0 0, .slice none 0 0, .bool false, .slice none 0 0, .int .i64 0, .int .i64 0, .int .i64 0] 31)).alloc (.cells #[.int .i64 1, .int .i64 1] 3) = w4 := ⟨_, rfl⟩
  obtain ⟨pb, hpb⟩ : ∃ pb, w3.heap.size = pb := ⟨_, rfl⟩
  obtain ⟨gk, hgk⟩ : ∃ gk, pb + 1 = gk := ⟨_, rfl⟩
  have hb34 : Below w3.heap.size w3 w4 := by rw [← hw4]; exact below_then (below_alloc _ _) (below_alloc _ _)
  have bB : Bx w4 pb #[.int .i64 2, .int .i64 1, .int .i64 2, .slice (some ⟨gb, 0, none⟩) 1 1, .slice none 0 0, .slice none 0 0, .bool false, .slice none 0 0, .int .i64 0, .int .i64 0, .int .i64 0] 31 := by rw [← hw4, ← hpb]; exact bx_later (below_alloc _ _) (bx_new rfl)
  have k1 : Bx w4 gk #[.int .i64 1, .int .i64 1] 3 := by rw [← hw4, ← hgk, ← hpb]; exact bx_new (by simp)
  rw [hw4, hpb, hgk]
  have HB4 := Lib.hid (below_then HB3.out hb34)
  replace HaB := Lib.hid (bx_later hb34 HaB.out)
  replace Hb1 := Lib.hid (bx_later hb34 Hb1.out)
  have HbB := Lib.hid bB
  have Hk1 := Lib.hid k1
  clear hw4 hpb hgk bB k1 hb34
  refine (of20_any _).mono ?_
  rintro e w5 ⟨rfl, hb5⟩
  have HB5 := Lib.hid (below_then HB4.out hb5)
  replace HaB := Lib.hid (bx_later hb5 HaB.out)
  replace Hb1 := Lib.hid (bx_later hb5 Hb1.out)
  replace HbB := Lib.hid (bx_later hb5 HbB.out)
  replace Hk1 := Lib.hid (bx_later hb5 Hk1.out)
  clear hb5
  go_upto_region 4 with fail
  obtain ⟨w6, hw6⟩ : ∃ w6, w5.alloc (.cells #[.int .i64 1, .int .i64 2, .int .i64 3, .slice (some ⟨gk, 0, none⟩) 2 2, .slice none 0 0, .slice none 0 0, .bool false, .slice none 0 0, .int .i64 0, .int .i64 0, .int .i64 0] 31) = w6 := ⟨_, rfl⟩
  obtain ⟨pk, hpk⟩ : ∃ pk, w5.heap.size = pk := ⟨_, rfl⟩
  have hb56 : Below w5.heap.size w5 w6 := by rw [← hw6]; exact below_alloc _ _
  have kB : Bx w6 pk #[.int .i64 1, .int .i64 2, .int .i64 3, .slice (some ⟨gk, 0, none⟩) 2 2, .slice none 0 0, .slice none 0 0, .bool false, .slice none 0 0, .int .i64 0, .int .i64 0, .int .i64 0] 31 := by rw [← hw6, ← hpk]; exact bx_new rfl
  rw [hw6, hpk]
  have HKB := Lib.hid kB
  have HB56 := Lib.hid hb56
  clear hw6 hb56 kB
  have k8 := cell_of_box HKB.out 8 rfl
  have k9 := cell_of_box HKB.out 9 rfl
  have k10 := cell_of_box HKB.out 10 rfl
  have f8 := frozen_of_box HKB.out 8
  have f9 := frozen_of_box HKB.out 9
  have f10 := frozen_of_box HKB.out 10
  go_upto_region 7 with fail
  obtain ⟨w7, hw7⟩ : ∃ w7, ((w6.setCell ⟨pk, 8, none⟩ (.int .i64 1)).setCell ⟨pk, 9, none⟩ (.int .i64 2)).setCell ⟨pk, 10, none⟩ (.int .i64 1) = w7 := ⟨_, rfl⟩
  have HkB : Hid (Bx w7 pk #[.int .i64 1, .int .i64 2, .int .i64 3, .slice (some ⟨gk, 0, none⟩) 2 2, .slice none 0 0, .slice none 0 0, .bool false, .slice none 0 0, .int .i64 1, .int .i64 2, .int .i64 1] 31) := by show Bx _ _ _ _; rw [← hw7]; exact bx_setc (bx_setc (bx_setc HKB.out 8 _) 9 _) 10 _
  have hb57 : Below w5.heap.size w5 w7 := by rw [← hw7]; exact ((((HB56.out.setCell (by show _ ≤ pk; omega) _)).setCell (by show _ ≤ pk; omega) _)).setCell (by show _ ≤ pk; omega) _
  rw [hw7]
  clear hw7 hpk HKB HB56
  have HB7 := Lib.hid (below_then HB5.out hb57)
  replace HaB := Lib.hid (bx_later hb57 HaB.out)
  replace Hb1 := Lib.hid (bx_later hb57 Hb1.out)
  replace HbB := Lib.hid (bx_later hb57 HbB.out)
  replace Hk1 := Lib.hid (bx_later hb57 Hk1.out)
  clear hb57 k8 k9 k10 f8 f9 f10
  go_wp2_with fail
  obtain ⟨w8, hw8⟩ : ∃ w8, w7.alloc (.cells #[.int .i64 2, .int .i64 1] 3) = w8 := ⟨_, rfl⟩
  obtain ⟨go, hgo⟩ : ∃ go, w7.heap.size = go := ⟨_, rfl⟩
  have hb78 : Below w7.heap.size w7 w8 := by rw [← hw8]; exact below_alloc _ _
  have o1 : Bx w8 go #[.int .i64 2, .int .i64 1] 3 := by rw [← hw8, ← hgo]; exact bx_new rfl
  rw [hw8, hgo]
  refine (of20_any _).mono ?_
  rintro e w9 ⟨rfl, hb89⟩
  have hb79 := below_then hb78 hb89
  have HB9 := Lib.hid (below_then HB7.out hb79)
  replace HaB := Lib.hid (bx_later hb79 HaB.out)
  replace Hb1 := Lib.hid (bx_later hb79 Hb1.out)
  replace HbB := Lib.hid (bx_later hb79 HbB.out)
  replace Hk1 := Lib.hid (bx_later hb79 Hk1.out)
  replace HkB := Lib.hid (bx_later hb79 HkB.out)
  have Ho1 := Lib.hid (bx_later hb89 o1)
  clear hw8 hgo hb78 hb89 hb79 o1
  go_upto_region 8 with fail
  obtain ⟨w10, hw10⟩ : ∃ w10, w9.alloc (.cells #[.int .i64 1, .int .i64 3, .int .i64 4, .slice (some ⟨go, 0, none⟩) 2 2, .slice none 0 0, .slice none 0 0, .bool false, .slice none 0 0, .int .i64 0, .int .i64 0, .int .i64 0] 31) = w10 := ⟨_, rfl⟩
  obtain ⟨po, hpo⟩ : ∃ po, w9.heap.size = po := ⟨_, rfl⟩
  have hb910 : Below w9.heap.size w9 w10 := by rw [← hw10]; exact below_alloc _ _
  have oB : Bx w10 po #[.int .i64 1, .int .i64 3, .int .i64 4, .slice (some ⟨go, 0, none⟩) 2 2, .slice none 0 0, .slice none 0 0, .bool false, .slice none 0 0, .int .i64 0, .int .i64 0, .int .i64 0] 31 := by rw [← hw10, ← hpo]; exact bx_new rfl
  rw [hw10, hpo]
  have HOB := Lib.hid oB
  have HB910 := Lib.hid hb910
  clear hw10 hb910 oB
  have k8 := cell_of_box HOB.out 8 rfl
  have k9 := cell_of_box HOB.out 9 rfl
  have k10 := cell_of_box HOB.out 10 rfl
  have f8 := frozen_of_box HOB.out 8
  have f9 := frozen_of_box HOB.out 9
  have f10 := frozen_of_box HOB.out 10
  go_upto_region 11 with fail
  obtain ⟨w11, hw11⟩ : ∃ w11, ((w10.setCell ⟨po, 8, none⟩ (.int .i64 2)).setCell ⟨po, 9, none⟩ (.int .i64 2)).setCell ⟨po, 10, none⟩ (.int .i64 1) = w11 := ⟨_, rfl⟩
  have HoB : Hid (Bx w11 po #[.int .i64 1, .int .i64 3, .int .i64 4, .slice (some ⟨go, 0, none⟩) 2 2, .slice none 0 0, .slice none 0 0, .bool false, .slice none 0 0, .int .i64 2, .int .i64 2, .int .i64 1] 31) := by show Bx _ _ _ _; rw [← hw11]; exact bx_setc (bx_setc (bx_setc HOB.out 8 _) 9 _) 10 _
  have hb911 : Below w9.heap.size w9 w11 := by rw [← hw11]; exact ((((HB910.out.setCell (by show _ ≤ po; omega) _)).setCell (by show _ ≤ po; omega) _)).setCell (by show _ ≤ po; omega) _
  rw [hw11]
  clear hw11 hpo HOB HB910
  have HB11 := Lib.hid (below_then HB9.out hb911)
  replace HaB := Lib.hid (bx_later hb911 HaB.out)
  replace Hb1 := Lib.hid (bx_later hb911 Hb1.out)
  replace HbB := Lib.hid (bx_later hb911 HbB.out)
  replace Hk1 := Lib.hid (bx_later hb911 Hk1.out)
  replace HkB := Lib.hid (bx_later hb911 HkB.out)
  replace Ho1 := Lib.hid (bx_later hb911 Ho1.out)
  clear hb911 k8 k9 k10 f8 f9 f10
  have a0 := cell_of_box HaB.out 0 rfl
  have a1 := cell_of_box HaB.out 1 rfl
  have a2 := cell_of_box HaB.out 2 rfl
  have a3 := cell_of_box HaB.out 3 rfl
  have a4 := cell_of_box HaB.out 4 rfl
  have a5 := cell_of_box HaB.out 5 rfl
  have a6 := cell_of_box HaB.out 6 rfl
  have a7 := cell_of_box HaB.out 7 rfl
  have a8 := cell_of_box HaB.out 8 rfl
  have a9 := cell_of_box HaB.out 9 rfl
  have a10 := cell_of_box HaB.out 10 rfl
  have b0 := cell_of_box HbB.out 0 rfl
  have b1 := cell_of_box HbB.out 1 rfl
  have b2 := cell_of_box HbB.out 2 rfl
  have b3 := cell_of_box HbB.out 3 rfl
  have b4 := cell_of_box HbB.out 4 rfl
  have b5 := cell_of_box HbB.out 5 rfl
  have b6 := cell_of_box HbB.out 6 rfl
  have b7 := cell_of_box HbB.out 7 rfl
  have b8 := cell_of_box HbB.out 8 rfl
  have b9 := cell_of_box HbB.out 9 rfl
  have b10 := cell_of_box HbB.out 10 rfl
  have k0 := cell_of_box HkB.out 0 rfl
  have k1 := cell_of_box HkB.out 1 rfl
  have k2 := cell_of_box HkB.out 2 rfl
  have k3 := cell_of_box HkB.out 3 rfl
  have k4 := cell_of_box HkB.out 4 rfl
  have k5 := cell_of_box HkB.out 5 rfl
  have k6 := cell_of_box HkB.out 6 rfl
  have k7 := cell_of_box HkB.out 7 rfl
  have k8 := cell_of_box HkB.out 8 rfl
  have k9 := cell_of_box HkB.out 9 rfl
  have k10 := cell_of_box HkB.out 10 rfl
  go_upto_region 12 with fail
  obtain ⟨u, hu⟩ : ∃ u, w11.alloc (.cells #[.int .i64 2, .int .i64 1, .int .i64 2, .slice (some ⟨gb, 0, none⟩) 1 1, .slice none 0 0, .slice none 0 0, .bool false, .slice none 0 0, .int .i64 0, .int .i64 0, .int .i64 0, .int .i64 1, .int .i64 1, .int .i64 1, .slice none 0 0, .slice none 0 0, .slice none 0 0, .bool false, .slice none 0 0, .int .i64 0, .int .i64 0, .int .i64 0, .int .i64 1, .int .i64 2, .int .i64 3, .slice (some ⟨gk, 0, none⟩) 2 2, .slice none 0 0, .slice none 0 0, .bool false, .slice none 0 0, .int .i64 1, .int .i64 2, .int .i64 1] 31) = u := ⟨_, rfl⟩
  obtain ⟨gl, hgl⟩ : ∃ gl, w11.heap.size = gl := ⟨_, rfl⟩
  have hb : Below w11.heap.size w11 u := by rw [← hu]; exact below_alloc _ _
  have HBU := Lib.hid (below_then HB11.out hb)
  have HAW : Hid (AW pa pb pk po gb gk go gl u) := ⟨bx_later hb HaB.out, bx_later hb HbB.out, bx_later hb HkB.out, bx_later hb HoB.out, bx_later hb Hb1.out, bx_later hb Hk1.out, bx_later hb Ho1.out, by rw [← hu, ← hgl]; exact bx_new rfl⟩
  rw [hu, hgl]
  clear hu hgl hb a0 a1 a2 a3 a4 a5 a6 a7 a8 a9 a10 b0 b1 b2 b3 b4 b5 b6 b7 b8 b9 b10 k0 k1 k2 k3 k4 k5 k6 k7 k8 k9 k10
  go_wp2_with fail
  have hc := bound_any (whom := 2) u HAW.out.l (by simp)
  rw [aw_bound] at hc
  refine hc.mono ?_
  rintro e u1 ⟨rfl, hb⟩
  replace HBU := Lib.hid (below_then HBU.out hb)
  replace HAW := Lib.hid (HAW.out.later hb)
  clear hb hc
  have a0 := cell_of_box HAW.out.aB 0 rfl
  have a1 := cell_of_box HAW.out.aB 1 rfl
  have a2 := cell_of_box HAW.out.aB 2 rfl
  have a3 := cell_of_box HAW.out.aB 3 rfl
  have a4 := cell_of_box HAW.out.aB 4 rfl
  have a5 := cell_of_box HAW.out.aB 5 rfl
  have a6 := cell_of_box HAW.out.aB 6 rfl
  have a7 := cell_of_box HAW.out.aB 7 rfl
  have a8 := cell_of_box HAW.out.aB 8 rfl
  have a9 := cell_of_box HAW.out.aB 9 rfl
  have a10 := cell_of_box HAW.out.aB 10 rfl
  have b0 := cell_of_box HAW.out.bB 0 rfl
  have b1 := cell_of_box HAW.out.bB 1 rfl
  have b2 := cell_of_box HAW.out.bB 2 rfl
  have b3 := cell_of_box HAW.out.bB 3 rfl
  have b4 := cell_of_box HAW.out.bB 4 rfl
  have b5 := cell_of_box HAW.out.bB 5 rfl
  have b6 := cell_of_box HAW.out.bB 6 rfl
  have b7 := cell_of_box HAW.out.bB 7 rfl
  have b8 := cell_of_box HAW.out.bB 8 rfl
  have b9 := cell_of_box HAW.out.bB 9 rfl
  have b10 := cell_of_box HAW.out.bB 10 rfl
  have k0 := cell_of_box HAW.out.kB 0 rfl
  have k1 := cell_of_box HAW.out.kB 1 rfl
  have k2 := cell_of_box HAW.out.kB 2 rfl
  have k3 := cell_of_box HAW.out.kB 3 rfl
  have k4 := cell_of_box HAW.out.kB 4 rfl
  have k5 := cell_of_box HAW.out.kB 5 rfl
  have k6 := cell_of_box HAW.out.kB 6 rfl
  have k7 := cell_of_box HAW.out.kB 7 rfl
  have k8 := cell_of_box HAW.out.kB 8 rfl
  have k9 := cell_of_box HAW.out.kB 9 rfl
  have k10 := cell_of_box HAW.out.kB 10 rfl
  have o0 := cell_of_box HAW.out.oB 0 rfl
  have o1 := cell_of_box HAW.out.oB 1 rfl
  have o2 := cell_of_box HAW.out.oB 2 rfl
  have o3 := cell_of_box HAW.out.oB 3 rfl
  have o4 := cell_of_box HAW.out.oB 4 rfl
  have o5 := cell_of_box HAW.out.oB 5 rfl
  have o6 := cell_of_box HAW.out.oB 6 rfl
  have o7 := cell_of_box HAW.out.oB 7 rfl
  have o8 := cell_of_box HAW.out.oB 8 rfl
  have o9 := cell_of_box HAW.out.oB 9 rfl
  have o10 := cell_of_box HAW.out.oB 10 rfl
  go_upto_region 13 with fail
  simp only [List.append_eq, List.cons_append, List.nil_append]
  refine wp_region_flow (by kernel_rfl) 72 [(2, ⟨fun v => ∃ g : Nat, v = .slice (some ⟨g, 0, none⟩) 2 2, fun v _ _ w' => ∃ g : Nat, v = .slice (some ⟨g, 0, none⟩) 2 2 ∧ Bx w' g #[.int .i64 2, .int .i64 1, .int .i64 2, .slice (some ⟨gb, 0, none⟩) 1 1, .slice none 0 0, .slice none 0 0, .bool false, .slice none 0 0, .int .i64 0, .int .i64 0, .int .i64 0, .int .i64 1, .int .i64 1, .int .i64 1, .slice none 0 0, .slice none 0 0, .slice none 0 0, .bool false, .slice none 0 0, .int .i64 0, .int .i64 0, .int .i64 0] 31⟩), (3, ⟨fun v => v = .bool true, fun _ _ _ _ => True⟩), (6, ⟨fun v => ∃ g : Nat, v = .slice (some ⟨g, 0, none⟩) 1 1, fun v _ _ w' => ∃ g : Nat, v = .slice (some ⟨g, 0, none⟩) 1 1 ∧ Bx w' g #[.int .i64 2, .int .i64 1, .int .i64 2, .slice (some ⟨gb, 0, none⟩) 1 1, .slice none 0 0, .slice none 0 0, .bool false, .slice none 0 0, .int .i64 0, .int .i64 0, .int .i64 0] 31⟩), (7, ⟨fun v => v = .bool false, fun _ _ _ _ => True⟩), (12, ⟨fun _ => True, fun v _ _ w' => Rd w' v (knownT [] [awB gb, awA, awK gk]).length ((knownT [] [awB gb, awA, awK gk]).map ic)⟩), (13, ⟨fun v => ∃ g : Nat, v = .slice (some ⟨g, 0, none⟩) 2 2, fun v _ _ w' => ∃ g : Nat, v = .slice (some ⟨g, 0, none⟩) 2 2 ∧ Bx w' g #[.int .i64 2, .int .i64 1] 3⟩), (14, ⟨fun v => v = .bool true, fun _ _ _ _ => True⟩), (19, ⟨fun v => v = .bool true, fun _ _ _ _ => True⟩), (24, ⟨fun v => v = .bool true, fun _ _ _ _ => True⟩), (36, ⟨fun v => v = .int .i64 3, fun _ _ _ _ => True⟩), (41, ⟨fun _ => True, fun v _ _ w' => Rd w' v 2 (([1, 2] : List Int).map ic)⟩), (42, ⟨fun v => ∃ g : Nat, v = .slice (some ⟨g, 0, none⟩) 2 2, fun v _ _ w' => ∃ g : Nat, v = .slice (some ⟨g, 0, none⟩) 2 2 ∧ Bx w' g #[.int .i64 1, .int .i64 2] 3⟩), (43, ⟨fun v => v = .bool true, fun _ _ _ _ => True⟩), (48, ⟨fun v => ∃ g : Nat, v = .slice (some ⟨g, 0, none⟩) 1 1, fun v _ _ w' => ∃ g : Nat, v = .slice (some ⟨g, 0, none⟩) 1 1 ∧ Bx w' g #[.int .i64 1, .int .i64 3, .int .i64 4, .slice (some ⟨go, 0, none⟩) 2 2, .slice none 0 0, .slice none 0 0, .bool false, .slice none 0 0, .int .i64 2, .int .i64 2, .int .i64 1] 31⟩), (49, ⟨fun _ => True, fun v _ _ w' => LRd w' v [awB gb, awA, awK gk, awO go]⟩), (50, ⟨fun _ => True, fun v _ _ w' => Rd w' v 1 (([2] : List Int).map ic)⟩), (51, ⟨fun v => ∃ g : Nat, v = .slice (some ⟨g, 0, none⟩) 1 1, fun v _ _ w' => ∃ g : Nat, v = .slice (some ⟨g, 0, none⟩) 1 1 ∧ Bx w' g #[.int .i64 2] 3⟩), (52, ⟨fun v => v = .bool true, fun _ _ _ _ => True⟩), (56, ⟨fun _ => True, fun v _ _ w' => Rd w' v 3 (txsCs [awA, awB gb, awK gk])⟩), (60, ⟨fun v => ∃ g : Nat, v = .slice (some ⟨g, 0, none⟩) 3 3, fun v _ _ w' => ∃ g : Nat, v = .slice (some ⟨g, 0, none⟩) 3 3 ∧ Bx w' g #[.int .i64 1, .int .i64 1, .int .i64 1, .slice none 0 0, .slice none 0 0, .slice none 0 0, .bool false, .slice none 0 0, .int .i64 0, .int .i64 0, .int .i64 0, .int .i64 2, .int .i64 1, .int .i64 2, .slice (some ⟨gb, 0, none⟩) 1 1, .slice none 0 0, .slice none 0 0, .bool false, .slice none 0 0, .int .i64 0, .int .i64 0, .int .i64 0, .int .i64 1, .int .i64 2, .int .i64 3, .slice (some ⟨gk, 0, none⟩) 2 2, .slice none 0 0, .slice none 0 0, .bool false, .slice none 0 0, .int .i64 1, .int .i64 2, .int .i64 1] 31⟩), (61, ⟨fun v => v = .bool true, fun _ _ _ _ => True⟩), (66, ⟨fun _ => True, fun v _ _ w' => LRd w' v [awA]⟩), (68, ⟨fun v => ∃ g : Nat, v = .slice (some ⟨g, 0, none⟩) 1 1, fun v _ _ w' => ∃ g : Nat, v = .slice (some ⟨g, 0, none⟩) 1 1 ∧ Bx w' g #[.int .i64 1, .int .i64 1, .int .i64 1, .slice none 0 0, .slice none 0 0, .slice none 0 0, .bool false, .slice none 0 0, .int .i64 0, .int .i64 0, .int .i64 0] 31⟩), (69, ⟨fun v => v = .bool true, fun _ _ _ _ => True⟩)] (by kernel_rfl) ?_ ?_ ?_
  · intro x hx
    simp only [List.mem_cons, List.not_mem_nil, or_false] at hx
    rcases hx with rfl | rfl | rfl | rfl | rfl | rfl | rfl | rfl | rfl | rfl | rfl | rfl | rfl | rfl | rfl | rfl | rfl | rfl | rfl | rfl | rfl | rfl | rfl | rfl
    · exact ⟨_, 0, rfl⟩
    · exact ⟨_, rfl⟩
    · exact ⟨_, 0, rfl⟩
    · exact ⟨_, rfl⟩
    · exact ⟨.int .i64 0, trivial⟩
    · exact ⟨_, 0, rfl⟩
    · exact ⟨_, rfl⟩
    · exact ⟨_, rfl⟩
    · exact ⟨_, rfl⟩
    · exact ⟨_, rfl⟩
    · exact ⟨.int .i64 0, trivial⟩
    · exact ⟨_, 0, rfl⟩
    · exact ⟨_, rfl⟩
    · exact ⟨_, 0, rfl⟩
    · exact ⟨.int .i64 0, trivial⟩
    · exact ⟨.int .i64 0, trivial⟩
    · exact ⟨_, 0, rfl⟩
    · exact ⟨_, rfl⟩
    · exact ⟨.int .i64 0, trivial⟩
    · exact ⟨_, 0, rfl⟩
    · exact ⟨_, rfl⟩
    · exact ⟨.int .i64 0, trivial⟩
    · exact ⟨_, 0, rfl⟩
    · exact ⟨_, rfl⟩
  · intro x hx v lo hi w w' h hb
    simp only [List.mem_cons, List.not_mem_nil, or_false] at hx
    rcases hx with rfl | rfl | rfl | rfl | rfl | rfl | rfl | rfl | rfl | rfl | rfl | rfl | rfl | rfl | rfl | rfl | rfl | rfl | rfl | rfl | rfl | rfl | rfl | rfl
    · obtain ⟨g, rfl, h⟩ := h
      exact ⟨g, rfl, bx_later hb h⟩
    · exact trivial
    · obtain ⟨g, rfl, h⟩ := h
      exact ⟨g, rfl, bx_later hb h⟩
    · exact trivial
    · exact h.later hb
    · obtain ⟨g, rfl, h⟩ := h
      exact ⟨g, rfl, bx_later hb h⟩
    · exact trivial
    · exact trivial
    · exact trivial
    · exact trivial
    · exact h.later hb
    · obtain ⟨g, rfl, h⟩ := h
      exact ⟨g, rfl, bx_later hb h⟩
    · exact trivial
    · obtain ⟨g, rfl, h⟩ := h
      exact ⟨g, rfl, bx_later hb h⟩
    · exact h.later hb
    · exact h.later hb
    · obtain ⟨g, rfl, h⟩ := h
      exact ⟨g, rfl, bx_later hb h⟩
    · exact trivial
    · exact h.later hb
    · obtain ⟨g, rfl, h⟩ := h
      exact ⟨g, rfl, bx_later hb h⟩
    · exact trivial
    · exact h.later hb
    · obtain ⟨g, rfl, h⟩ := h
      exact ⟨g, rfl, bx_later hb h⟩
    · exact trivial
  · intro lo hi
    have ka0 := cell_regrown a0
    have ka1 := cell_regrown a1
    have ka2 := cell_regrown a2
    have ka3 := cell_regrown a3
    have ka4 := cell_regrown a4
    have ka5 := cell_regrown a5
    have ka6 := cell_regrown a6
    have ka7 := cell_regrown a7
    have ka8 := cell_regrown a8
    have ka9 := cell_regrown a9
    have ka10 := cell_regrown a10
    have kb0 := cell_regrown b0
    have kb1 := cell_regrown b1
    have kb2 := cell_regrown b2
    have kb3 := cell_regrown b3
    have kb4 := cell_regrown b4
    have kb5 := cell_regrown b5
    have kb6 := cell_regrown b6
    have kb7 := cell_regrown b7
    have kb8 := cell_regrown b8
    have kb9 := cell_regrown b9
    have kb10 := cell_regrown b10
    have kk0 := cell_regrown k0
    have kk1 := cell_regrown k1
    have kk2 := cell_regrown k2
    have kk3 := cell_regrown k3
    have kk4 := cell_regrown k4
    have kk5 := cell_regrown k5
    have kk6 := cell_regrown k6
    have kk7 := cell_regrown k7
    have kk8 := cell_regrown k8
    have kk9 := cell_regrown k9
    have kk10 := cell_regrown k10
    have ko0 := cell_regrown o0
    have ko1 := cell_regrown o1
    have ko2 := cell_regrown o2
    have ko3 := cell_regrown o3
    have ko4 := cell_regrown o4
    have ko5 := cell_regrown o5
    have ko6 := cell_regrown o6
    have ko7 := cell_regrown o7
    have ko8 := cell_regrown o8
    have ko9 := cell_regrown o9
    have ko10 := cell_regrown o10
    refine flowW_plain rfl ?_
    go_big_quiet_step (fail)
    refine wpQuiet_nil ?_
    refine flowW_plain rfl ?_
    go_big_quiet_step (fail)
    refine wpQuiet_nil ?_
    refine flowW_call rfl rfl ?_ ?_
    · intro W hW hF K hK
      clear ka0 ka1 ka2 ka3 ka4 ka5 ka6 ka7 ka8 ka9 ka10 kb0 kb1 kb2 kb3 kb4 kb5 kb6 kb7 kb8 kb9 kb10 kk0 kk1 kk2 kk3 kk4 kk5 kk6 kk7 kk8 kk9 kk10 ko0 ko1 ko2 ko3 ko4 ko5 ko6 ko7 ko8 ko9 ko10
      go_wp2_with fail
      exact hK _ _ ⟨_, rfl⟩ ⟨_, rfl, bx_new rfl⟩ (below_alloc _ _)
    rintro v ⟨g2, rfl⟩ K hK
    go_simp
    refine hK _ ?_
    clear hK K
    refine flowW_call rfl rfl ?_ ?_
    · intro W hW hF K hK
      clear ka0 ka1 ka2 ka3 ka4 ka5 ka6 ka7 ka8 ka9 ka10 kb0 kb1 kb2 kb3 kb4 kb5 kb6 kb7 kb8 kb9 kb10 kk0 kk1 kk2 kk3 kk4 kk5 kk6 kk7 kk8 kk9 kk10 ko0 ko1 ko2 ko3 ko4 ko5 ko6 ko7 ko8 ko9 ko10
      obtain ⟨_, he, hx⟩ := hF 2 rfl
      cases he
      have HW' := HAW.out.later hW
      have hc := closed_any (line := []) (last := 0) (l := [awB gb, awA]) _ (rd_nilT _) (HW'.lrd hx rfl rfl (by simp) (by simp)) (fun d => by rw [ofV_nil]; decide) (by simp)
      rw [aw_closed] at hc
      go_wp2_with fail
      refine hc.mono ?_
      rintro e wq ⟨rfl, hbq⟩
      go_wp2_with fail
      exact hK _ _ rfl trivial hbq
    rintro v rfl K hK
    go_simp
    refine hK _ ?_
    clear hK K
    refine flowW_plain rfl ?_
    go_big_quiet_step (fail)
    refine wpQuiet_nil ?_
    refine flowW_plain rfl ?_
    go_big_quiet_step (fail)
    refine wpQuiet_nil ?_
    refine flowW_call rfl rfl ?_ ?_
    · intro W hW hF K hK
      clear ka0 ka1 ka2 ka3 ka4 ka5 ka6 ka7 ka8 ka9 ka10 kb0 kb1 kb2 kb3 kb4 kb5 kb6 kb7 kb8 kb9 kb10 kk0 kk1 kk2 kk3 kk4 kk5 kk6 kk7 kk8 kk9 kk10 ko0 ko1 ko2 ko3 ko4 ko5 ko6 ko7 ko8 ko9 ko10
      go_wp2_with fail
      exact hK _ _ ⟨_, rfl⟩ ⟨_, rfl, bx_new rfl⟩ (below_alloc _ _)
    rintro v ⟨g6, rfl⟩ K hK
    go_simp
    refine hK _ ?_
    clear hK K
    refine flowW_call rfl rfl ?_ ?_
    · intro W hW hF K hK
      clear ka0 ka1 ka2 ka3 ka4 ka5 ka6 ka7 ka8 ka9 ka10 kb0 kb1 kb2 kb3 kb4 kb5 kb6 kb7 kb8 kb9 kb10 kk0 kk1 kk2 kk3 kk4 kk5 kk6 kk7 kk8 kk9 kk10 ko0 ko1 ko2 ko3 ko4 ko5 ko6 ko7 ko8 ko9 ko10
      obtain ⟨_, he, hx⟩ := hF 6 rfl
      cases he
      have HW' := HAW.out.later hW
      have hc := closed_any (line := []) (last := 0) (l := [awB gb]) _ (rd_nilT _) (HW'.lrd hx rfl rfl (by simp) (by simp)) (fun d => by rw [ofV_nil]; decide) (by simp)
      rw [aw_open] at hc
      go_wp2_with fail
      refine hc.mono ?_
      rintro e wq ⟨rfl, hbq⟩
      go_wp2_with fail
      exact hK _ _ rfl trivial hbq
    rintro v rfl K hK
    go_simp
    refine hK _ ?_
    clear hK K
    refine flowW_plain rfl ?_
    go_big_quiet_step (fail)
    refine wpQuiet_nil ?_
    refine flowW_plain rfl ?_
    go_big_quiet_step (fail)
    refine wpQuiet_nil ?_
    refine flowW_plain rfl ?_
    go_big_quiet_step (fail)
    refine wpQuiet_nil ?_
    refine flowW_plain rfl ?_
    go_big_quiet_step (fail)
    refine wpQuiet_nil ?_
    refine flowW_call rfl rfl ?_ ?_
    · intro W hW hF K hK
      clear ka0 ka1 ka2 ka3 ka4 ka5 ka6 ka7 ka8 ka9 ka10 kb0 kb1 kb2 kb3 kb4 kb5 kb6 kb7 kb8 kb9 kb10 kk0 kk1 kk2 kk3 kk4 kk5 kk6 kk7 kk8 kk9 kk10 ko0 ko1 ko2 ko3 ko4 ko5 ko6 ko7 ko8 ko9 ko10
      have HW' := HAW.out.later hW
      have hc := known_any (line := []) _ (rd_nilT _) HW'.l (by simp)
      go_wp2_with fail
      refine hc.mono ?_
      rintro e wq ⟨v4, rfl, ho4, hbq⟩
      go_wp2_with fail
      exact hK _ _ trivial (Rd.of_own ho4) hbq
    rintro v - K hK
    go_simp
    refine hK _ ?_
    clear hK K
    refine flowW_call rfl rfl ?_ ?_
    · intro W hW hF K hK
      clear ka0 ka1 ka2 ka3 ka4 ka5 ka6 ka7 ka8 ka9 ka10 kb0 kb1 kb2 kb3 kb4 kb5 kb6 kb7 kb8 kb9 kb10 kk0 kk1 kk2 kk3 kk4 kk5 kk6 kk7 kk8 kk9 kk10 ko0 ko1 ko2 ko3 ko4 ko5 ko6 ko7 ko8 ko9 ko10
      go_wp2_with fail
      exact hK _ _ ⟨_, rfl⟩ ⟨_, rfl, bx_new rfl⟩ (below_alloc _ _)
    rintro v ⟨g13, rfl⟩ K hK
    go_simp
    refine hK _ ?_
    clear hK K
    refine flowW_call rfl rfl ?_ ?_
    · intro W hW hF K hK
      clear ka0 ka1 ka2 ka3 ka4 ka5 ka6 ka7 ka8 ka9 ka10 kb0 kb1 kb2 kb3 kb4 kb5 kb6 kb7 kb8 kb9 kb10 kk0 kk1 kk2 kk3 kk4 kk5 kk6 kk7 kk8 kk9 kk10 ko0 ko1 ko2 ko3 ko4 ko5 ko6 ko7 ko8 ko9 ko10
      obtain ⟨_, he, hx⟩ := hF 13 rfl
      cases he
      have HW' := HAW.out.later hW
      have hc := vSame_any _ _ _ [2, 1] _ (hF 12 rfl) (rd_of_bxT hx 2 (by decide))
      rw [aw_known] at hc
      go_wp2_with fail
      refine hc.mono ?_
      rintro e wq ⟨rfl, rfl⟩
      go_wp2_with fail
      exact hK _ _ rfl trivial (Below.refl _ _)
    rintro v rfl K hK
    go_simp
    refine hK _ ?_
    clear hK K
    refine flowW_plain rfl ?_
    go_big_quiet_step (fail)
    refine wpQuiet_nil ?_
    refine flowW_plain rfl ?_
    go_big_quiet_step (fail)
    refine wpQuiet_nil ?_
    refine flowW_plain rfl ?_
    go_big_quiet_step (fail)
    refine wpQuiet_nil ?_
    refine flowW_plain rfl ?_
    go_big_quiet_step (fail)
    refine wpQuiet_nil ?_
    refine flowW_call rfl rfl ?_ ?_
    · intro W hW hF K hK
      clear ka0 ka1 ka2 ka3 ka4 ka5 ka6 ka7 ka8 ka9 ka10 kb0 kb1 kb2 kb3 kb4 kb5 kb6 kb7 kb8 kb9 kb10 kk0 kk1 kk2 kk3 kk4 kk5 kk6 kk7 kk8 kk9 kk10 ko0 ko1 ko2 ko3 ko4 ko5 ko6 ko7 ko8 ko9 ko10
      have HW' := HAW.out.later hW
      have hc := note_any (line := []) (owns := []) (deps := [1, 1]) (dev := 1) (seq := 2) (time := 3) (note := 1) (whom := 2) (upto := 1) (fm := false) (ad := some ⟨gk, 0, none⟩) (nd := 2) (cd := 2) (ao := none) (no := 0) (co := 0) (ae := none) (ne := 0) (ce := 0) (ah := none) (nh := 0) (ch := 0) _ (rd_nilT _) (rd_nilT _) HW'.l HW'.rk (by decide) (by decide) (fun t ht => by simp only [List.mem_cons, List.not_mem_nil, or_false] at ht; rcases ht with rfl | rfl | rfl <;> simp [awA, awB, awK]) (by simp)
      rw [aw_noteK] at hc
      go_wp2_with fail
      refine hc.mono ?_
      rintro e wq ⟨rfl, hbq⟩
      go_wp2_with fail
      exact hK _ _ rfl trivial hbq
    rintro v rfl K hK
    go_simp
    refine hK _ ?_
    clear hK K
    refine flowW_plain rfl ?_
    go_big_quiet_step (fail)
    refine wpQuiet_nil ?_
    refine flowW_plain rfl ?_
    go_big_quiet_step (fail)
    refine wpQuiet_nil ?_
    refine flowW_plain rfl ?_
    go_big_quiet_step (fail)
    refine wpQuiet_nil ?_
    refine flowW_plain rfl ?_
    go_big_quiet_step (fail)
    refine wpQuiet_nil ?_
    refine flowW_call rfl rfl ?_ ?_
    · intro W hW hF K hK
      clear ka0 ka1 ka2 ka3 ka4 ka5 ka6 ka7 ka8 ka9 ka10 kb0 kb1 kb2 kb3 kb4 kb5 kb6 kb7 kb8 kb9 kb10 kk0 kk1 kk2 kk3 kk4 kk5 kk6 kk7 kk8 kk9 kk10 ko0 ko1 ko2 ko3 ko4 ko5 ko6 ko7 ko8 ko9 ko10
      have HW' := HAW.out.later hW
      have hc := note_any (line := []) (owns := []) (deps := [2, 1]) (dev := 1) (seq := 3) (time := 4) (note := 2) (whom := 2) (upto := 1) (fm := false) (ad := some ⟨go, 0, none⟩) (nd := 2) (cd := 2) (ao := none) (no := 0) (co := 0) (ae := none) (ne := 0) (ce := 0) (ah := none) (nh := 0) (ch := 0) _ (rd_nilT _) (rd_nilT _) HW'.l HW'.ro (by decide) (by decide) (fun t ht => by simp only [List.mem_cons, List.not_mem_nil, or_false] at ht; rcases ht with rfl | rfl | rfl <;> simp [awA, awB, awK]) (by simp)
      rw [aw_noteO] at hc
      go_wp2_with fail
      refine hc.mono ?_
      rintro e wq ⟨rfl, hbq⟩
      go_wp2_with fail
      exact hK _ _ rfl trivial hbq
    rintro v rfl K hK
    go_simp
    refine hK _ ?_
    clear hK K
    refine flowW_plain rfl ?_
    go_big_quiet_step (fail)
    refine wpQuiet_nil ?_
    refine flowW_plain rfl ?_
    go_big_quiet_step (fail)
    refine wpQuiet_nil ?_
    refine flowW_plain rfl ?_
    go_big_quiet_step (fail)
    refine wpQuiet_nil ?_
    refine flowW_plain rfl ?_
    go_big_quiet_step (fail)
    refine wpQuiet_nil ?_
    refine flowW_plain rfl ?_
    go_big_quiet_step (fail)
    refine wpQuiet_nil ?_
    refine flowW_plain rfl ?_
    go_big_quiet_step (fail)
    refine wpQuiet_nil ?_
    refine flowW_plain rfl ?_
    go_big_quiet_step (fail)
    refine wpQuiet_nil ?_
    refine flowW_plain rfl ?_
    go_big_quiet_step (fail)
    refine wpQuiet_nil ?_
    refine flowW_plain rfl ?_
    go_big_quiet_step (fail)
    refine wpQuiet_nil ?_
    refine flowW_plain rfl ?_
    go_big_quiet_step (fail)
    refine wpQuiet_nil ?_
    refine flowW_plain rfl ?_
    go_big_quiet_step (fail)
    refine wpQuiet_nil ?_
    refine flowW_call rfl rfl ?_ ?_
    · intro W hW hF K hK
      clear ka0 ka1 ka2 ka3 ka4 ka5 ka6 ka7 ka8 ka9 ka10 kb0 kb1 kb2 kb3 kb4 kb5 kb6 kb7 kb8 kb9 kb10 kk0 kk1 kk2 kk3 kk4 kk5 kk6 kk7 kk8 kk9 kk10 ko0 ko1 ko2 ko3 ko4 ko5 ko6 ko7 ko8 ko9 ko10
      have HW' := HAW.out.later hW
      have hc := time_any (line := []) (last := 0) (deps := [2, 1]) (dev := 1) (seq := 3) (time := 4) (note := 2) (whom := 2) (upto := 1) (fm := false) (ad := some ⟨go, 0, none⟩) (nd := 2) (cd := 2) (ao := none) (no := 0) (co := 0) (ae := none) (ne := 0) (ce := 0) (ah := none) (nh := 0) (ch := 0) _ (rd_nilT _) HW'.l HW'.ro
      rw [aw_time] at hc
      go_wp2_with fail
      refine hc.mono ?_
      rintro e wq ⟨rfl, hbq⟩
      go_wp2_with fail
      exact hK _ _ rfl trivial hbq
    rintro v rfl K hK
    go_simp
    refine hK _ ?_
    clear hK K
    refine flowW_plain rfl ?_
    go_big_quiet_step (fail)
    refine wpQuiet_nil ?_
    refine flowW_plain rfl ?_
    go_big_quiet_step (fail)
    refine wpQuiet_nil ?_
    refine flowW_plain rfl ?_
    go_big_quiet_step (fail)
    refine wpQuiet_nil ?_
    refine flowW_plain rfl ?_
    go_big_quiet_step (fail)
    refine wpQuiet_nil ?_
    refine flowW_call rfl rfl ?_ ?_
    · intro W hW hF K hK
      clear ka0 ka1 ka2 ka3 ka4 ka5 ka6 ka7 ka8 ka9 ka10 kb0 kb1 kb2 kb3 kb4 kb5 kb6 kb7 kb8 kb9 kb10 kk0 kk1 kk2 kk3 kk4 kk5 kk6 kk7 kk8 kk9 kk10 ko0 ko1 ko2 ko3 ko4 ko5 ko6 ko7 ko8 ko9 ko10
      have HW' := HAW.out.later hW
      have hc := members_any (line := []) (owns := []) _ (rd_nilT _) (rd_nilT _) HW'.l (by decide) (by decide) (by simp [handD, awA, awB, awK])
      rw [aw_mem] at hc
      go_wp2_with fail
      refine hc.mono ?_
      rintro e wq ⟨v8, rfl, ho8, hbq⟩
      go_wp2_with fail
      exact hK _ _ trivial ho8 hbq
    rintro v - K hK
    go_simp
    refine hK _ ?_
    clear hK K
    refine flowW_call rfl rfl ?_ ?_
    · intro W hW hF K hK
      clear ka0 ka1 ka2 ka3 ka4 ka5 ka6 ka7 ka8 ka9 ka10 kb0 kb1 kb2 kb3 kb4 kb5 kb6 kb7 kb8 kb9 kb10 kk0 kk1 kk2 kk3 kk4 kk5 kk6 kk7 kk8 kk9 kk10 ko0 ko1 ko2 ko3 ko4 ko5 ko6 ko7 ko8 ko9 ko10
      go_wp2_with fail
      exact hK _ _ ⟨_, rfl⟩ ⟨_, rfl, bx_new rfl⟩ (below_alloc _ _)
    rintro v ⟨g42, rfl⟩ K hK
    go_simp
    refine hK _ ?_
    clear hK K
    refine flowW_call rfl rfl ?_ ?_
    · intro W hW hF K hK
      clear ka0 ka1 ka2 ka3 ka4 ka5 ka6 ka7 ka8 ka9 ka10 kb0 kb1 kb2 kb3 kb4 kb5 kb6 kb7 kb8 kb9 kb10 kk0 kk1 kk2 kk3 kk4 kk5 kk6 kk7 kk8 kk9 kk10 ko0 ko1 ko2 ko3 ko4 ko5 ko6 ko7 ko8 ko9 ko10
      obtain ⟨_, he, hx⟩ := hF 42 rfl
      cases he
      have HW' := HAW.out.later hW
      have hc := ints_any (l := [1, 2]) (m := [1, 2]) _ (hF 41 rfl) (rd_of_bxT hx 2 (by decide)) (by decide)
      rw [decide_eq_true rfl] at hc
      go_wp2_with fail
      refine hc.mono ?_
      rintro e wq ⟨rfl, hbq⟩
      go_wp2_with fail
      exact hK _ _ rfl trivial hbq
    rintro v rfl K hK
    go_simp
    refine hK _ ?_
    clear hK K
    refine flowW_plain rfl ?_
    go_big_quiet_step (fail)
    refine wpQuiet_nil ?_
    refine flowW_plain rfl ?_
    go_big_quiet_step (fail)
    refine wpQuiet_nil ?_
    refine flowW_plain rfl ?_
    go_big_quiet_step (fail)
    refine wpQuiet_nil ?_
    refine flowW_plain rfl ?_
    go_big_quiet_step (fail)
    refine wpQuiet_nil ?_
    refine flowW_call rfl rfl ?_ ?_
    · intro W hW hF K hK
      clear ka0 ka1 ka2 ka3 ka4 ka5 ka6 ka7 ka8 ka9 ka10 kb0 kb1 kb2 kb3 kb4 kb5 kb6 kb7 kb8 kb9 kb10 kk0 kk1 kk2 kk3 kk4 kk5 kk6 kk7 kk8 kk9 kk10 ko0 ko1 ko2 ko3 ko4 ko5 ko6 ko7 ko8 ko9 ko10
      go_wp2_with fail
      exact hK _ _ ⟨_, rfl⟩ ⟨_, rfl, bx_new rfl⟩ (below_alloc _ _)
    rintro v ⟨g48, rfl⟩ K hK
    go_simp
    refine hK _ ?_
    clear hK K
    refine flowW_call rfl rfl ?_ ?_
    · intro W hW hF K hK
      clear ka0 ka1 ka2 ka3 ka4 ka5 ka6 ka7 ka8 ka9 ka10 kb0 kb1 kb2 kb3 kb4 kb5 kb6 kb7 kb8 kb9 kb10 kk0 kk1 kk2 kk3 kk4 kk5 kk6 kk7 kk8 kk9 kk10 ko0 ko1 ko2 ko3 ko4 ko5 ko6 ko7 ko8 ko9 ko10
      obtain ⟨_, he, hx⟩ := hF 48 rfl
      cases he
      have HW' := HAW.out.later hW
      refine wpList_app_fullG (n := 3) (m := 1) (news := (awO go).cs) elTx ⟨_, elTx.ty, fun k h => by cases h⟩ rfl _ _ rfl rfl rfl HW'.l.1 rfl (Src.of_rd (rd_of_bxT hx 1 (by decide)) rfl) (by decide) (by decide) ?_
      intro v9 wq hr9 hbq
      go_wp2_with fail
      have HW'' := HW'.later hbq
      exact hK _ _ trivial ⟨hr9, (fun t ht => HW''.each t (by simp only [List.mem_cons, List.not_mem_nil, or_false] at ht ⊢; rcases ht with rfl | rfl | rfl | rfl <;> simp))⟩ hbq
    rintro v - K hK
    go_simp
    refine hK _ ?_
    clear hK K
    refine flowW_call rfl rfl ?_ ?_
    · intro W hW hF K hK
      clear ka0 ka1 ka2 ka3 ka4 ka5 ka6 ka7 ka8 ka9 ka10 kb0 kb1 kb2 kb3 kb4 kb5 kb6 kb7 kb8 kb9 kb10 kk0 kk1 kk2 kk3 kk4 kk5 kk6 kk7 kk8 kk9 kk10 ko0 ko1 ko2 ko3 ko4 ko5 ko6 ko7 ko8 ko9 ko10
      have HW' := HAW.out.later hW
      have hc := retired_any _ (hF 49 rfl) (by simp)
      rw [aw_ret] at hc
      go_wp2_with fail
      refine hc.mono ?_
      rintro e wq ⟨a10, c10, rfl, ho10, hbq⟩
      go_wp2_with fail
      exact hK _ _ trivial (Rd.of_own ho10) hbq
    rintro v - K hK
    go_simp
    refine hK _ ?_
    clear hK K
    refine flowW_call rfl rfl ?_ ?_
    · intro W hW hF K hK
      clear ka0 ka1 ka2 ka3 ka4 ka5 ka6 ka7 ka8 ka9 ka10 kb0 kb1 kb2 kb3 kb4 kb5 kb6 kb7 kb8 kb9 kb10 kk0 kk1 kk2 kk3 kk4 kk5 kk6 kk7 kk8 kk9 kk10 ko0 ko1 ko2 ko3 ko4 ko5 ko6 ko7 ko8 ko9 ko10
      go_wp2_with fail
      exact hK _ _ ⟨_, rfl⟩ ⟨_, rfl, bx_new rfl⟩ (below_alloc _ _)
    rintro v ⟨g51, rfl⟩ K hK
    go_simp
    refine hK _ ?_
    clear hK K
    refine flowW_call rfl rfl ?_ ?_
    · intro W hW hF K hK
      clear ka0 ka1 ka2 ka3 ka4 ka5 ka6 ka7 ka8 ka9 ka10 kb0 kb1 kb2 kb3 kb4 kb5 kb6 kb7 kb8 kb9 kb10 kk0 kk1 kk2 kk3 kk4 kk5 kk6 kk7 kk8 kk9 kk10 ko0 ko1 ko2 ko3 ko4 ko5 ko6 ko7 ko8 ko9 ko10
      obtain ⟨_, he, hx⟩ := hF 51 rfl
      cases he
      have HW' := HAW.out.later hW
      have hc := ints_any (l := [2]) (m := [2]) _ (hF 50 rfl) (rd_of_bxT hx 1 (by decide)) (by decide)
      rw [decide_eq_true rfl] at hc
      go_wp2_with fail
      refine hc.mono ?_
      rintro e wq ⟨rfl, hbq⟩
      go_wp2_with fail
      exact hK _ _ rfl trivial hbq
    rintro v rfl K hK
    go_simp
    refine hK _ ?_
    clear hK K
    refine flowW_plain rfl ?_
    go_big_quiet_step (fail)
    refine wpQuiet_nil ?_
    refine flowW_plain rfl ?_
    go_big_quiet_step (fail)
    refine wpQuiet_nil ?_
    refine flowW_plain rfl ?_
    go_big_quiet_step (fail)
    refine wpQuiet_nil ?_
    refine flowW_call rfl rfl ?_ ?_
    · intro W hW hF K hK
      clear ka0 ka1 ka2 ka3 ka4 ka5 ka6 ka7 ka8 ka9 ka10 kb0 kb1 kb2 kb3 kb4 kb5 kb6 kb7 kb8 kb9 kb10 kk0 kk1 kk2 kk3 kk4 kk5 kk6 kk7 kk8 kk9 kk10 ko0 ko1 ko2 ko3 ko4 ko5 ko6 ko7 ko8 ko9 ko10
      have HW' := HAW.out.later hW
      have hc := ordTx_any _ HW'.l (by simp)
      go_wp2_with fail
      refine hc.mono ?_
      rintro e wq ⟨v11, rfl, ho11, hbq⟩
      rw [aw_ord] at ho11
      go_wp2_with fail
      exact hK _ _ trivial (Rd.of_own ho11) hbq
    rintro v - K hK
    go_simp
    refine hK _ ?_
    clear hK K
    refine flowW_plain rfl ?_
    go_big_quiet_step (fail)
    refine wpQuiet_nil ?_
    refine flowW_plain rfl ?_
    go_big_quiet_step (fail)
    refine wpQuiet_nil ?_
    refine flowW_plain rfl ?_
    go_big_quiet_step (fail)
    refine wpQuiet_nil ?_
    refine flowW_call rfl rfl ?_ ?_
    · intro W hW hF K hK
      clear ka0 ka1 ka2 ka3 ka4 ka5 ka6 ka7 ka8 ka9 ka10 kb0 kb1 kb2 kb3 kb4 kb5 kb6 kb7 kb8 kb9 kb10 kk0 kk1 kk2 kk3 kk4 kk5 kk6 kk7 kk8 kk9 kk10 ko0 ko1 ko2 ko3 ko4 ko5 ko6 ko7 ko8 ko9 ko10
      go_wp2_with fail
      exact hK _ _ ⟨_, rfl⟩ ⟨_, rfl, bx_new rfl⟩ (below_alloc _ _)
    rintro v ⟨g60, rfl⟩ K hK
    go_simp
    refine hK _ ?_
    clear hK K
    refine flowW_call rfl rfl ?_ ?_
    · intro W hW hF K hK
      clear ka0 ka1 ka2 ka3 ka4 ka5 ka6 ka7 ka8 ka9 ka10 kb0 kb1 kb2 kb3 kb4 kb5 kb6 kb7 kb8 kb9 kb10 kk0 kk1 kk2 kk3 kk4 kk5 kk6 kk7 kk8 kk9 kk10 ko0 ko1 ko2 ko3 ko4 ko5 ko6 ko7 ko8 ko9 ko10
      obtain ⟨_, he, hx⟩ := hF 60 rfl
      cases he
      have HW' := HAW.out.later hW
      have hc := txs_any (l := [awA, awB gb, awK gk]) _ ⟨hF 56 rfl, (fun t ht => HW'.each t (by simp only [List.mem_cons, List.not_mem_nil, or_false] at ht ⊢; rcases ht with rfl | rfl | rfl <;> simp))⟩ (HW'.lrd hx rfl rfl (by simp) (by simp)) (fun t ht => by simp only [List.mem_cons, List.not_mem_nil, or_false] at ht; rcases ht with rfl | rfl | rfl <;> simp [awA, awB, awK])
      go_wp2_with fail
      refine hc.mono ?_
      rintro e wq ⟨rfl, hbq⟩
      go_wp2_with fail
      exact hK _ _ rfl trivial hbq
    rintro v rfl K hK
    go_simp
    refine hK _ ?_
    clear hK K
    refine flowW_plain rfl ?_
    go_big_quiet_step (fail)
    refine wpQuiet_nil ?_
    refine flowW_plain rfl ?_
    go_big_quiet_step (fail)
    refine wpQuiet_nil ?_
    refine flowW_plain rfl ?_
    go_big_quiet_step (fail)
    refine wpQuiet_nil ?_
    refine flowW_plain rfl ?_
    go_big_quiet_step (fail)
    refine wpQuiet_nil ?_
    refine flowW_call rfl rfl ?_ ?_
    · intro W hW hF K hK
      clear ka0 ka1 ka2 ka3 ka4 ka5 ka6 ka7 ka8 ka9 ka10 kb0 kb1 kb2 kb3 kb4 kb5 kb6 kb7 kb8 kb9 kb10 kk0 kk1 kk2 kk3 kk4 kk5 kk6 kk7 kk8 kk9 kk10 ko0 ko1 ko2 ko3 ko4 ko5 ko6 ko7 ko8 ko9 ko10
      have HW' := HAW.out.later hW
      have hc := past_any (deps := [1]) (dev := 2) (seq := 1) (time := 2) (note := 0) (whom := 0) (upto := 0) (fm := false) (ad := some ⟨gb, 0, none⟩) (nd := 1) (cd := 1) (ao := none) (no := 0) (co := 0) (ae := none) (ne := 0) (ce := 0) (ah := none) (nh := 0) (ch := 0) _ HW'.l HW'.rb (by simp)
      go_wp2_with fail
      refine hc.mono ?_
      rintro e wq ⟨v12, rfl, ho12, hbq⟩
      rw [aw_past] at ho12
      go_wp2_with fail
      exact hK _ _ trivial ho12 hbq
    rintro v - K hK
    go_simp
    refine hK _ ?_
    clear hK K
    refine flowW_plain rfl ?_
    go_big_quiet_step (fail)
    refine wpQuiet_nil ?_
    refine flowW_call rfl rfl ?_ ?_
    · intro W hW hF K hK
      clear ka0 ka1 ka2 ka3 ka4 ka5 ka6 ka7 ka8 ka9 ka10 kb0 kb1 kb2 kb3 kb4 kb5 kb6 kb7 kb8 kb9 kb10 kk0 kk1 kk2 kk3 kk4 kk5 kk6 kk7 kk8 kk9 kk10 ko0 ko1 ko2 ko3 ko4 ko5 ko6 ko7 ko8 ko9 ko10
      go_wp2_with fail
      exact hK _ _ ⟨_, rfl⟩ ⟨_, rfl, bx_new rfl⟩ (below_alloc _ _)
    rintro v ⟨g68, rfl⟩ K hK
    go_simp
    refine hK _ ?_
    clear hK K
    refine flowW_call rfl rfl ?_ ?_
    · intro W hW hF K hK
      clear ka0 ka1 ka2 ka3 ka4 ka5 ka6 ka7 ka8 ka9 ka10 kb0 kb1 kb2 kb3 kb4 kb5 kb6 kb7 kb8 kb9 kb10 kk0 kk1 kk2 kk3 kk4 kk5 kk6 kk7 kk8 kk9 kk10 ko0 ko1 ko2 ko3 ko4 ko5 ko6 ko7 ko8 ko9 ko10
      obtain ⟨_, he, hx⟩ := hF 68 rfl
      cases he
      have HW' := HAW.out.later hW
      have hc := txs_any (l := [awA]) _ (hF 66 rfl) (HW'.lrd hx rfl rfl (by simp) (by simp)) (fun t ht => by rw [List.mem_singleton.1 ht]; decide)
      go_wp2_with fail
      refine hc.mono ?_
      rintro e wq ⟨rfl, hbq⟩
      go_wp2_with fail
      exact hK _ _ rfl trivial hbq
    rintro v rfl K hK
    go_simp
    refine hK _ ?_
    clear hK K
    refine flowW_plain rfl ?_
    go_big_quiet_step (fail)
    refine wpQuiet_nil ?_
    refine flowW_plain rfl ?_
    go_big_quiet_step (fail)
    refine wpQuiet_nil ?_
    refine flowW_end fun wz hwz hF hD => ?_
    clear ka0 ka1 ka2 ka3 ka4 ka5 ka6 ka7 ka8 ka9 ka10 kb0 kb1 kb2 kb3 kb4 kb5 kb6 kb7 kb8 kb9 kb10 kk0 kk1 kk2 kk3 kk4 kk5 kk6 kk7 kk8 kk9 kk10 ko0 ko1 ko2 ko3 ko4 ko5 ko6 ko7 ko8 ko9 ko10
    simp only [List.drop_succ_cons, List.drop_zero]
    clear hF hD a0 a1 a2 a3 a4 a5 a6 a7 a8 a9 a10 b0 b1 b2 b3 b4 b5 b6 b7 b8 b9 b10 k0 k1 k2 k3 k4 k5 k6 k7 k8 k9 k10 o0 o1 o2 o3 o4 o5 o6 o7 o8 o9 o10
    have HBZ := Lib.hid (below_then HBU.out hwz)
    clear hwz
    go_wp2_with fail
    go_ret
    exact ⟨rfl, HBZ.out⟩
end Go.Proofs.YtnolbabpkhdpmaaGreat
/- Layer 20 (past): arguments opened. -/
namespace Go.Proofs.YtnolbabpkhdpmaaGreat
open Go.ChangeShapes Go.WideShapes Go.RowKit

theorem wf_u8T {x : Int} (h : (Lit.int .u8 x).wf = true) : 0 ≤ x ∧ x ≤ 255 := by
  simpa [Lit.wf, IntKind.min, IntKind.max, IntKind.signed, IntKind.bits] using h
section
variable {H : Type} {enc : TypeId × Value → H} {W : World} {n : Nat} {cs : List Value} {x : DataW H × List MemPlace}
theorem rd_form {w : World} {v : Value} {n : Nat} {xs : List Value} (h : Rd w v n xs) : ∃ a c, v = .slice a n c := by
  obtain ⟨a, c, rfl, _⟩ := h
  exact ⟨a, c, rfl⟩
/-- Whose whole numbers are int's. -/
def TxS.Bd (x : TxS) : Prop := okI x.dev ∧ okI x.seq ∧ okI x.time ∧ okI x.note ∧ okI x.whom ∧ okI x.upto ∧ ∀ y ∈ x.deps, okI y
set_option maxRecDepth 100000 in
theorem opn_txS (h : DataW.trod enc Tryz.prog W 0 (fun _ => true) true n 31 cs = some x) (hl : cs.length = 11) : ∃ a : TxS, cs = a.cs ∧ (a.Reads W ∧ a.Bd) := by
  match cs, hl with
  | [c0, c1, c2, c3, c4, c5, c6, c7, c8, c9, c10], _ =>
    obtain ⟨m, hf⟩ := opn_fields Tryz.underlying31 h
    obtain ⟨_, h0⟩ := hf 0 3 0 1 rfl txInt
    obtain ⟨_, h1⟩ := hf 1 3 1 1 rfl txInt
    obtain ⟨_, h2⟩ := hf 2 3 2 1 rfl txInt
    obtain ⟨_, h3⟩ := hf 3 23 3 1 rfl txVec
    obtain ⟨_, h4⟩ := hf 4 28 4 1 rfl txOps
    obtain ⟨_, h5⟩ := hf 5 28 5 1 rfl txOps
    obtain ⟨_, h6⟩ := hf 6 4 6 1 rfl txBool
    obtain ⟨_, h7⟩ := hf 7 29 7 1 rfl txHands
    obtain ⟨_, h8⟩ := hf 8 3 8 1 rfl txInt
    obtain ⟨_, h9⟩ := hf 9 3 9 1 rfl txInt
    obtain ⟨_, h10⟩ := hf 10 3 10 1 rfl txInt
    obtain ⟨k0, e0, b0⟩ := opn_int Tryz.underlying3 h0
    obtain ⟨k1, e1, b1⟩ := opn_int Tryz.underlying3 h1
    obtain ⟨k2, e2, b2⟩ := opn_int Tryz.underlying3 h2
    obtain ⟨vd, ds, e3, r3, b3⟩ := opn_intsT h3
    obtain ⟨vo, os, e4, r4, b4⟩ := opn_list OpM.cs (fun a => a.Reads W ∧ ∀ y ∈ a.op.nums, okI y) 11 (fun _ => rfl) (by decide) Tryz.underlying28 txOp (fun _ _ _ h hl => opn_opM h hl) h4
    obtain ⟨ve, es, e5, r5, b5⟩ := opn_list OpM.cs (fun a => a.Reads W ∧ ∀ y ∈ a.op.nums, okI y) 11 (fun _ => rfl) (by decide) Tryz.underlying28 txOp (fun _ _ _ h hl => opn_opM h hl) h5
    obtain ⟨fm, e6⟩ := opn_bool Tryz.underlying4 h6
    obtain ⟨vh, hs, e7, r7, b7⟩ := opn_list HandT.cs (fun a => ∀ y ∈ a.nums, okI y) 7 (fun _ => rfl) (by decide) Tryz.underlying29 txHand (fun _ _ _ h hl => opn_handT h hl) h7
    obtain ⟨k8, e8, b8⟩ := opn_int Tryz.underlying3 h8
    obtain ⟨k9, e9, b9⟩ := opn_int Tryz.underlying3 h9
    obtain ⟨k10, e10, b10⟩ := opn_int Tryz.underlying3 h10
    obtain ⟨ad, cd, rfl⟩ := rd_form r3
    obtain ⟨ao, co, rfl⟩ := rd_form r4
    obtain ⟨ae, ce, rfl⟩ := rd_form r5
    obtain ⟨ah, ch, rfl⟩ := rd_form r7
    simp at e0 e1 e2 e3 e4 e5 e6 e7 e8 e9 e10
    refine ⟨⟨k0, k1, k2, ad, ds.length, cd, ao, os.length, co, ae, es.length, ce, fm, ah, hs.length, ch, k8, k9, k10, ds, os, es, hs⟩, ?_, ⟨r3, rfl, r4, rfl, fun a ha => (b4 a ha).1, r5, rfl, fun a ha => (b5 a ha).1, r7, rfl⟩, ⟨b0, b1, b2, b8, b9, b10, b3⟩⟩
    rw [e0, e1, e2, e3, e4, e5, e6, e7, e8, e9, e10]; rfl
variable {v : Value} {d : DataW H} {p : List MemPlace} {base : Nat}
theorem cellsTxT : Tryz.prog.cellsOf 31 = 11 := by kernel_rfl
set_option maxRecDepth 100000 in
/-- Transactions that came in. -/
theorem open_txs (hok : Value.okWide Tryz.prog W .any base 24 v) (h : DataW.Trod enc Tryz.prog W 0 (fun _ => true) true 24 v d p) : ∃ l : List TxS, LRd W v l ∧ ∀ x ∈ l, x.Bd := by
  obtain ⟨a0, len, cap, rfl⟩ := okWide_slice Tryz.underlying24 hok
  obtain ⟨n, h⟩ := h
  obtain ⟨v', l, e, hr, hb⟩ := opn_list TxS.cs (fun a => a.Reads W ∧ a.Bd) 11 (fun _ => rfl) (by decide) Tryz.underlying24 cellsTxT (fun _ _ _ h hl => opn_txS h hl) h
  have : Value.slice a0 len cap = v' := by simpa [Value.cells] using e
  rw [this]
  exact ⟨l, ⟨hr, fun t ht => (hb t ht).1⟩, fun t ht => (hb t ht).2⟩
set_option maxRecDepth 100000 in
/-- A transaction that came in. -/
theorem open_txS (hok : Value.okWide Tryz.prog W .any base 31 v) (h : DataW.Trod enc Tryz.prog W 0 (fun _ => true) true 31 v d p) : ∃ t : TxS, v = t.agg ∧ t.Reads W ∧ t.Bd := by
  obtain ⟨cs, rfl, hl, hcs⟩ := opn_agg (.inl ⟨_, Tryz.underlying31⟩) hok
  obtain ⟨n, h⟩ := h
  rw [hcs] at h
  rw [cellsTxT] at hl
  obtain ⟨t, rfl, hr, hb⟩ := opn_txS h hl
  exact ⟨t, rfl, hr, hb⟩
set_option maxRecDepth 100000 in
/-- A line that came in. -/
theorem open_line (hok : Value.okWide Tryz.prog W .any base 23 v) (h : DataW.Trod enc Tryz.prog W 0 (fun _ => true) true 23 v d p) : ∃ l : List Int, Rd W v l.length (l.map ic) ∧ ∀ d, -9223372036854775808 ≤ ofV l d := by
  obtain ⟨a0, len, cap, rfl⟩ := okWide_slice Tryz.underlying23 hok
  obtain ⟨n, h⟩ := h
  obtain ⟨v', l, e, hr, hb⟩ := opn_intsT h
  have : Value.slice a0 len cap = v' := by simpa [Value.cells] using e
  rw [this]
  refine ⟨l, hr, fun d => ?_⟩
  by_cases hd : d < 1 ∨ (l.length : Int) < d
  · rw [ofV_out hd]; decide
  · obtain ⟨j, rfl⟩ : ∃ j : Nat, d = (j : Int) + 1 := ⟨(d - 1).toNat, by omega⟩
    rw [ofV_at (j := j) (by omega) rfl]
    exact (hb _ (List.getElem_mem (by omega))).1
theorem cellsOwnT : Tryz.prog.cellsOf 71 = 2 := by kernel_rfl
theorem cellsRights : Tryz.prog.cellsOf 69 = 1 := by kernel_rfl
theorem opn_own (h : DataW.trod enc Tryz.prog W 0 (fun _ => true) true n 71 cs = some x) (hl : cs.length = 2) : ∃ a : OwnS, cs = a.cs ∧ True := by
  match cs, hl with
  | [c0, c1], _ =>
    obtain ⟨m, hf⟩ := opn_fields Tryz.underlying71 h
    obtain ⟨_, h0⟩ := hf 0 3 0 1 rfl txInt
    obtain ⟨_, h1⟩ := hf 1 69 1 1 rfl cellsRights
    obtain ⟨k0, e0, b0⟩ := opn_int Tryz.underlying3 h0
    simp at e0
    rcases Deep.open_slice Tryz.underlying69 h1 with ⟨e1, _⟩ | ⟨a, len, cap, _, _, _, _, e1, _⟩
    · simp at e1
      exact ⟨⟨k0, none, 0, 0⟩, by rw [e0, e1]; rfl, trivial⟩
    · simp at e1
      exact ⟨⟨k0, some a, len, cap⟩, by rw [e0, e1]; rfl, trivial⟩
set_option maxRecDepth 100000 in
/-- Owns that came in. -/
theorem open_owns (hok : Value.okWide Tryz.prog W .any base 66 v) (h : DataW.Trod enc Tryz.prog W 0 (fun _ => true) true 66 v d p) : ∃ l : List OwnS, Rd W v l.length (l.flatMap OwnS.cs) := by
  obtain ⟨a0, len, cap, rfl⟩ := okWide_slice Tryz.underlying66 hok
  obtain ⟨n, h⟩ := h
  obtain ⟨v', l, e, hr, hb⟩ := opn_list OwnS.cs (fun _ => True) 2 (fun _ => rfl) (by decide) Tryz.underlying66 cellsOwnT (fun _ _ _ h hl => opn_own h hl) h
  have : Value.slice a0 len cap = v' := by simpa [Value.cells] using e
  rw [this]
  exact ⟨l, hr⟩
end
/-- What 'few' says. -/
theorem fewL_facts {most : Int} {l : List TxS} (h : fewL most l = true) : (l.length : Int) ≤ most ∧ ∀ x ∈ l, x.nd ≤ 100 ∧ x.seq ≤ 1000000 := by
  unfold fewL at h
  rw [Bool.and_eq_true, decide_eq_true_eq, List.all_eq_true] at h
  refine ⟨h.1, fun x hx => ?_⟩
  have := h.2 x hx
  unfold fewX at this
  simp only [Bool.and_eq_true, decide_eq_true_eq] at this
  exact ⟨this.1.2, this.2.2⟩
end Go.Proofs.YtnolbabpkhdpmaaGreat
/- Layer 5 (vector): both, Join. -/
namespace Go.Proofs.YtnolbabpkhdpmaaGreat
open Go.RowKit Go.Sort Go.BigFrame

structure FunI2 (g : Nat) (cb : Array Value) (f : Int → Int → Int) : Prop where
  eg : ∀ args w, (callFunc g args).run Tryz.prog w = .ok (.enter g args) w
  call : ∀ (x y : Int) (W : World), Calls Tryz.prog g (#[.int .i64 x, .int .i64 y] ++ cb) W fun e w' => e = .returned (.int .i64 (f x y)) ∧ W = w'
end Go.Proofs.YtnolbabpkhdpmaaGreat
