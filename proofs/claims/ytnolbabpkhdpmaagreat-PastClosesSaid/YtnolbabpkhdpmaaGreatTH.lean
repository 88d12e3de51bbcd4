/-
  Layer 17 (tx): operations and hand-overs in rows; the document's Few; in of both sides.
-/
import Derived.Test.YtnolbabpkhdpmaaGreatTK
namespace Go.Proofs.YtnolbabpkhdpmaaGreat
section
open Go.RowKit Go.Sort Go.BigFrame

theorem flatC_length {α : Type} (f : α → List Value) (s : Nat) (hf : ∀ a, (f a).length = s) (l : List α) : (l.flatMap f).length = l.length * s := by
  induction l with
  | nil => simp
  | cons a l ih => rw [List.flatMap_cons, List.length_append, hf, ih, List.length_cons, Nat.succ_mul, Nat.add_comm]
theorem flatC_at {α : Type} (f : α → List Value) (s : Nat) (hf : ∀ a, (f a).length = s) : ∀ (l : List α) (k : Nat) (hk : k < l.length) (j : Nat), j < s → (l.flatMap f)[k * s + j]? = (f l[k])[j]?
  | a :: l, 0, _, j, hj => by
    rw [List.flatMap_cons, Nat.zero_mul, Nat.zero_add, List.getElem?_append_left (by rw [hf]; exact hj)]
    rfl
  | a :: l, k + 1, hk, j, hj => by
    rw [List.flatMap_cons, List.getElem?_append_right (by rw [hf, Nat.succ_mul]; omega), hf]
    have : (k + 1) * s + j - s = k * s + j := by rw [Nat.succ_mul]; omega
    rw [this, flatC_at f s hf l k (by simpa using hk) j hj]
    rfl

theorem elOp : El Tryz.prog 28 121 11 112 (.agg #[.int .i64 0, .int .i64 0, .int .i64 0, .int .i64 0, .slice none 0 0, .int .i64 0, .int .i64 0, .string ⟨#[]⟩, .int .i64 0, .int .i64 0, .int .i64 0]) := El.mk' (by kernel_rfl) (by kernel_rfl) rfl (by decide)
theorem elHand : El Tryz.prog 29 75 7 56 (.agg #[.int .i64 0, .int .i64 0, .int .i64 0, .int .i64 0, .int .i64 0, .int .i64 0, .int .i64 0]) := El.mk' (by kernel_rfl) (by kernel_rfl) rfl (by decide)

theorem rd_op {w : World} {ao : Option Addr} {n c : Nat} {l : List OpM} (h : Rd w (.slice ao n c) n (l.flatMap OpM.cs)) (hl : n = l.length) (k : Nat) (hk : k < l.length) {x : OpM} (hx : l[k] = x) :
    ∃ b o : Nat, (∀ W, (Instr.indexAt 28 (.slice ao n c) (.int .i64 (k : Int))).run Tryz.prog W = .ok (.pointer (some ⟨b, o, none⟩)) W) ∧ w.cell? ⟨b, o, none⟩ = some (.int .i64 x.op.kind) ∧ w.cell? ⟨b, o + 1, none⟩ = some (.int .i64 x.op.table) ∧ w.cell? ⟨b, o + 2, none⟩ = some (.int .i64 x.op.key) ∧ w.cell? ⟨b, o + 3, none⟩ = some (.int .i64 x.op.col) ∧ w.cell? ⟨b, o + 4, none⟩ = some x.rv ∧ w.cell? ⟨b, o + 5, none⟩ = some (.int .i64 x.op.val.k) ∧ w.cell? ⟨b, o + 6, none⟩ = some (.int .i64 x.op.val.n) ∧ w.cell? ⟨b, o + 7, none⟩ = some (.string x.op.val.s) ∧ w.cell? ⟨b, o + 8, none⟩ = some (.int .i64 x.op.after.1) ∧ w.cell? ⟨b, o + 9, none⟩ = some (.int .i64 x.op.after.2) ∧ w.cell? ⟨b, o + 10, none⟩ = some (.int .i64 x.op.at_) ∧ b < w.heap.size := by
  subst hl
  subst hx
  obtain ⟨A, hA, _, hlt, hc⟩ := h.elem 11 k hk (flatC_length OpM.cs 11 (fun _ => rfl) l) (by decide)
  obtain ⟨b, o, s⟩ := A
  have hs : s = none := by
    obtain ⟨u, _, hu⟩ := hc 0 (by decide)
    have := World.cell?_spot hu
    simpa [Addr.add] using this
  subst hs
  have key : ∀ j, j < 11 → ∀ u, (OpM.cs l[k])[j]? = some u → w.cell? ⟨b, o + j, none⟩ = some u := by
    intro j hj u hu
    obtain ⟨u', h1, h2⟩ := hc j hj
    rw [flatC_at OpM.cs 11 (fun _ => rfl) l k hk j hj, hu] at h1
    cases h1
    rw [Addr.add_lit] at h2
    exact h2
  have k0 := key 0 (by decide) _ rfl
  exact ⟨b, o, fun W => run_indexAt_at elOp hA hk W, k0, key 1 (by decide) _ rfl, key 2 (by decide) _ rfl, key 3 (by decide) _ rfl, key 4 (by decide) _ rfl, key 5 (by decide) _ rfl, key 6 (by decide) _ rfl, key 7 (by decide) _ rfl, key 8 (by decide) _ rfl, key 9 (by decide) _ rfl, key 10 (by decide) _ rfl, World.block_lt_of_cell? _ _ k0⟩
theorem rd_hand {w : World} {ao : Option Addr} {n c : Nat} {l : List HandT} (h : Rd w (.slice ao n c) n (l.flatMap HandT.cs)) (hl : n = l.length) (k : Nat) (hk : k < l.length) {x : HandT} (hx : l[k] = x) :
    ∃ b o : Nat, (∀ W, (Instr.indexAt 29 (.slice ao n c) (.int .i64 (k : Int))).run Tryz.prog W = .ok (.pointer (some ⟨b, o, none⟩)) W) ∧ w.cell? ⟨b, o, none⟩ = some (.int .i64 x.to) ∧ w.cell? ⟨b, o + 1, none⟩ = some (.int .i64 x.kind) ∧ w.cell? ⟨b, o + 2, none⟩ = some (.int .i64 x.table) ∧ w.cell? ⟨b, o + 3, none⟩ = some (.int .i64 x.col) ∧ w.cell? ⟨b, o + 4, none⟩ = some (.int .i64 x.lo) ∧ w.cell? ⟨b, o + 5, none⟩ = some (.int .i64 x.hi) ∧ w.cell? ⟨b, o + 6, none⟩ = some (.int .i64 x.amt) ∧ b < w.heap.size := by
  subst hl
  subst hx
  obtain ⟨A, hA, _, hlt, hc⟩ := h.elem 7 k hk (flatC_length HandT.cs 7 (fun _ => rfl) l) (by decide)
  obtain ⟨b, o, s⟩ := A
  have hs : s = none := by
    obtain ⟨u, _, hu⟩ := hc 0 (by decide)
    have := World.cell?_spot hu
    simpa [Addr.add] using this
  subst hs
  have key : ∀ j, j < 7 → ∀ u, (HandT.cs l[k])[j]? = some u → w.cell? ⟨b, o + j, none⟩ = some u := by
    intro j hj u hu
    obtain ⟨u', h1, h2⟩ := hc j hj
    rw [flatC_at HandT.cs 7 (fun _ => rfl) l k hk j hj, hu] at h1
    cases h1
    rw [Addr.add_lit] at h2
    exact h2
  have k0 := key 0 (by decide) _ rfl
  exact ⟨b, o, fun W => run_indexAt_at elHand hA hk W, k0, key 1 (by decide) _ rfl, key 2 (by decide) _ rfl, key 3 (by decide) _ rfl, key 4 (by decide) _ rfl, key 5 (by decide) _ rfl, key 6 (by decide) _ rfl, World.block_lt_of_cell? _ _ k0⟩
end

section
open Go.RowKit Go.Sort Go.BigFrame

def opQ (o : OpT) : Bool := decide (o.row.length ≤ 20) && rightV o.val && allR o.row
def valuesQ (l : List OpM) : Bool := l.all (fun a => opQ a.op) && decide (l.length ≤ 60)
theorem valuesQ_stop {l : List OpM} {k : Nat} (hk : k < l.length) {x : OpM} (hx : l[k] = x) (h : opQ x.op = false) : valuesQ l = false := by
  unfold valuesQ
  cases e : l.all (fun a => opQ a.op) with
  | false => rfl
  | true =>
    have := List.all_eq_true.1 e x (hx ▸ List.getElem_mem hk)
    rw [h] at this; cases this
theorem valuesQ_all {l : List OpM} (h : ∀ a ∈ l, opQ a.op = true) : valuesQ l = decide (l.length ≤ 60) := by
  unfold valuesQ
  rw [List.all_eq_true.2 h]; rfl
theorem refRightV_b {k n : Int} {s : ByteArray} {w : World} (b : Bool) (hb : rightV ⟨k, n, s⟩ = b) :
    Calls Tryz.prog 93 #[.agg #[.int .i64 k, .int .i64 n, .string s]] w fun e w' => e = .returned (.bool b) ∧ Below w.heap.size w w' := hb ▸ refRightV_any k n s w
theorem refAll_b {v : Value} {l : List Val} {w : World} (b : Bool) (hb : allR l = b) (h : Rd w v l.length (rowCs l)) :
    Calls Tryz.prog 94 #[v] w fun e w' => e = .returned (.bool b) ∧ Below w.heap.size w w' := hb ▸ refAll_any v l w h

set_option maxRecDepth 100000 in
set_option maxHeartbeats 4000000 in
theorem values_any (va : Value) (l : List OpM) (w : World) (ha : ORd w va l) :
    Calls Tryz.prog 72 #[va] w fun e w' => e = .returned (.bool (valuesQ l)) ∧ Below w.heap.size w w' := by
  obtain ⟨ao, cc, rfl, hnc, hcm, _, _⟩ := id ha.1
  have HA := Lib.hid ha
  obtain ⟨n, hln⟩ : ∃ n, l.length = n := ⟨_, rfl⟩
  have HLN := Lib.hid hln
  rw [hln] at hnc ⊢
  unfold maxLen at hcm
  clear ha hln
  go_enter Tryz.func72, Tryz.ntmps72
  go_wp2_with fail
  go_loopw [3] (fun vi wr => ∃ k : Nat, k ≤ n ∧ vi = .int .i64 k ∧ Hid (∀ a ∈ l.take k, opQ a.op = true) ∧ Hid (Below w.heap.size w wr)) (fun vi _ => n - (intOf vi).toNat)
  case atStart => exact ⟨0, Nat.zero_le _, rfl, (fun a ha => by simp at ha), Below.refl _ _⟩
  case round =>
    obtain ⟨k, hk, rfl, hno, hbw⟩ := hrel
    rename World => wr
    by_cases hlt : k < n
    · have hkl : k < l.length := by have := HLN.out; omega
      obtain ⟨x, hx⟩ : ∃ x, l[k] = x := ⟨_, rfl⟩
      obtain ⟨b, oo, x1, c0, c1, c2, c3, c4, c5, c6, c7, c8, c9, c10, _⟩ := rd_op (HA.out.later hbw.out).1 rfl k hkl hx
      rw [HLN.out] at x1
      have hrd : Rd wr x.rv x.op.row.length (rowCs x.op.row) := (HA.out.later hbw.out).2 x (hx ▸ List.getElem_mem hkl)
      obtain ⟨ra, rc, hrv, -, hrm, -, -⟩ := id hrd
      unfold maxLen at hrm
      rw [hrv] at c4 hrd
      have HRD := Lib.hid hrd
      have HST : Hid (opQ x.op = false → valuesQ l = false) := fun h => valuesQ_stop hkl hx h
      have HNX : Hid (opQ x.op = true → ∀ a ∈ l.take (k + 1), opQ a.op = true) := fun h a ha => by
        rw [List.take_succ_eq_append_getElem hkl] at ha
        rcases List.mem_append.1 ha with ha | ha
        · exact hno.out a ha
        · rw [List.mem_singleton.1 ha, hx]; exact h
      have HQ : Hid (opQ x.op = (decide (x.op.row.length ≤ 20) && rightV x.op.val && allR x.op.row)) := (by show _ = _; rfl)
      clear hx hrv hrd
      by_cases hlen : 20 < x.op.row.length
      · have g1 : decide (20 < (x.op.row.length : Int)) = true := decide_eq_true (by omega)
        have g2 : decide (20 < x.op.row.length) = true := decide_eq_true (by omega)
        have HF := Lib.hid (HST.out (HQ.out.trans (by rw [decide_eq_false (by omega)]; rfl)))
        go_wp2_with fail
        go_ret
        exact ⟨ret_bool HF.out.symm, hbw.out⟩
      · have g1 : decide (20 < (x.op.row.length : Int)) = false := decide_eq_false (by omega)
        have g2 : decide (20 < x.op.row.length) = false := decide_eq_false (by omega)
        have HL : Hid (decide (x.op.row.length ≤ 20) = true) := decide_eq_true (by omega)
        cases hv : rightV x.op.val
        all_goals
          have HV := Lib.hid hv
          clear hv
        · have HF := Lib.hid (HST.out (HQ.out.trans (by rw [HV.out, HL.out]; rfl)))
          go_wp2_with fail
          refine (refRightV_b false HV.out).mono ?_
          rintro e w2 ⟨rfl, hb2⟩
          have HB2 := Lib.hid (below_then hbw.out hb2)
          clear hb2
          go_wp2_with fail
          go_ret
          exact ⟨ret_bool HF.out.symm, HB2.out⟩
        · cases hr : allR x.op.row
          all_goals
            have HR := Lib.hid hr
            clear hr
            go_wp2_with fail
            refine (refRightV_b true HV.out).mono ?_
            rintro e w2 ⟨rfl, hb2⟩
            have HB2 := Lib.hid (below_then hbw.out hb2)
            have d4 := cell_later hb2 c4
            have HR2 := Lib.hid (HRD.out.later hb2)
            clear hb2 c0 c1 c2 c3 c4 c5 c6 c7 c8 c9 c10
            go_wp2_with fail
          · refine (refAll_b false HR.out HR2.out).mono ?_
            rintro e w3 ⟨rfl, hb3⟩
            have HB3 := Lib.hid (below_then HB2.out hb3)
            have HF := Lib.hid (HST.out (HQ.out.trans (by rw [HV.out, HL.out, HR.out]; rfl)))
            clear hb3
            go_wp2_with fail
            go_ret
            exact ⟨ret_bool HF.out.symm, HB3.out⟩
          · refine (refAll_b true HR.out HR2.out).mono ?_
            rintro e w3 ⟨rfl, hb3⟩
            have HB3 := Lib.hid (below_then HB2.out hb3)
            have HG := Lib.hid (HNX.out (HQ.out.trans (by rw [HV.out, HL.out, HR.out]; rfl)))
            clear hb3
            go_wp2_with fail
            go_roundw
            case rel => exact ⟨k + 1, by omega, by go_num, HG.out, HB3.out⟩
            case measure => simp [intOf]; omega
    · have hkn : k = n := by omega
      subst hkn
      have HF := Lib.hid (valuesQ_all (l := l) (by have := hno.out; rwa [List.take_of_length_le (by have := HLN.out; omega)] at this))
      have hfin : decide ((k : Int) ≤ 60) = decide (l.length ≤ 60) := decide_eq_decide.2 (by have := HLN.out; omega)
      have HFIN := Lib.hid hfin
      clear hfin
      go_wp2_with fail
      go_ret
      exact ⟨ret_bool (by rw [HF.out, ← HFIN.out] <;> simp), hbw.out⟩
end

section
open Go.RowKit Go.Sort Go.BigFrame

def fewQ (nd nh : Nat) (ops els : List OpM) : Bool := decide ((nd : Int) ≤ 80) && (decide ((nh : Int) ≤ 60) && (valuesQ ops && valuesQ els))
theorem values_b {va : Value} {l : List OpM} {w : World} (b : Bool) (hb : valuesQ l = b) (ha : ORd w va l) :
    Calls Tryz.prog 72 #[va] w fun e w' => e = .returned (.bool b) ∧ Below w.heap.size w w' := hb ▸ values_any va l w ha

set_option maxRecDepth 100000 in
set_option maxHeartbeats 4000000 in
theorem fewT_any {dev seq time note whom upto : Int} {fm : Bool} {ad ao ae ah : Option Addr} {nd cd co ce nh ch : Nat} (ops els : List OpM) (w : World) (ho : ORd w (.slice ao ops.length co) ops) (he : ORd w (.slice ae els.length ce) els) :
    Calls Tryz.prog 49 #[.agg #[.int .i64 dev, .int .i64 seq, .int .i64 time, .slice ad nd cd, .slice ao ops.length co, .slice ae els.length ce, .bool fm, .slice ah nh ch, .int .i64 note, .int .i64 whom, .int .i64 upto]] w fun e w' => e = .returned (.bool (fewQ nd nh ops els)) ∧ Below w.heap.size w w' := by
  obtain ⟨w1, hw1⟩ : ∃ w1, w.alloc (.cells #[.int .i64 dev, .int .i64 seq, .int .i64 time, .slice ad nd cd, .slice ao ops.length co, .slice ae els.length ce, .bool fm, .slice ah nh ch, .int .i64 note, .int .i64 whom, .int .i64 upto] 31) = w1 := ⟨_, rfl⟩
  have hb1 : Below w.heap.size w w1 := by rw [← hw1]; exact below_alloc _ _
  have b0 : Bx w1 w.heap.size #[.int .i64 dev, .int .i64 seq, .int .i64 time, .slice ad nd cd, .slice ao ops.length co, .slice ae els.length ce, .bool fm, .slice ah nh ch, .int .i64 note, .int .i64 whom, .int .i64 upto] 31 := by rw [← hw1]; exact bx_new (by simp)
  have HW := Lib.hid hw1
  have HB := Lib.hid hb1
  have HO := Lib.hid (ho.later hb1)
  have HE := Lib.hid (he.later hb1)
  have B0 := Lib.hid b0
  clear hw1 hb1 b0 ho he
  have c0 := cell_of_box B0.out 0 rfl
  have c1 := cell_of_box B0.out 1 rfl
  have c2 := cell_of_box B0.out 2 rfl
  have c3 := cell_of_box B0.out 3 rfl
  have c4 := cell_of_box B0.out 4 rfl
  have c5 := cell_of_box B0.out 5 rfl
  have c6 := cell_of_box B0.out 6 rfl
  have c7 := cell_of_box B0.out 7 rfl
  have c8 := cell_of_box B0.out 8 rfl
  have c9 := cell_of_box B0.out 9 rfl
  have c10 := cell_of_box B0.out 10 rfl
  cases h1 : decide ((nd : Int) ≤ 80)
  · have H1 := Lib.hid h1
    have HR : Hid (fewQ nd nh ops els = false) := (by show _ = _; unfold fewQ; rw [H1.out]; rfl)
    go_enter Tryz.func49, Tryz.ntmps49
    go_wp2_with fail
    rw [HW.out]
    go_wp2_with fail
    go_ret
    exact ⟨ret_bool HR.out.symm, HB.out⟩
  · have H1 := Lib.hid h1
    cases h2 : decide ((nh : Int) ≤ 60)
    · have H2 := Lib.hid h2
      have HR : Hid (fewQ nd nh ops els = false) := (by show _ = _; unfold fewQ; rw [H1.out, H2.out]; rfl)
      go_enter Tryz.func49, Tryz.ntmps49
      go_wp2_with fail
      rw [HW.out]
      go_wp2_with fail
      go_ret
      exact ⟨ret_bool HR.out.symm, HB.out⟩
    · have H2 := Lib.hid h2
      cases h3 : valuesQ ops
      all_goals
        have H3 := Lib.hid h3
        clear h3
      · have HR : Hid (fewQ nd nh ops els = false) := (by show _ = _; unfold fewQ; rw [H1.out, H2.out, H3.out]; rfl)
        go_enter Tryz.func49, Tryz.ntmps49
        go_wp2_with fail
        rw [HW.out]
        go_wp2_with fail
        refine (values_b false H3.out (HO.out.later (Below.refl _ _))).mono ?_
        rintro e w2 ⟨rfl, hbw2⟩
        have HBw2 := Lib.hid (below_then HB.out hbw2)
        clear hbw2
        go_wp2_with fail
        go_ret
        exact ⟨ret_bool HR.out.symm, HBw2.out⟩
      · cases h4 : valuesQ els
        all_goals
          have H4 := Lib.hid h4
          clear h4
        · have HR : Hid (fewQ nd nh ops els = false) := (by show _ = _; unfold fewQ; rw [H1.out, H2.out, H3.out, H4.out]; rfl)
          go_enter Tryz.func49, Tryz.ntmps49
          go_wp2_with fail
          rw [HW.out]
          go_wp2_with fail
          refine (values_b true H3.out (HO.out.later (Below.refl _ _))).mono ?_
          rintro e w2 ⟨rfl, hbw2⟩
          have HBw2 := Lib.hid (below_then HB.out hbw2)
          replace c0 := cell_later hbw2 c0
          replace c1 := cell_later hbw2 c1
          replace c2 := cell_later hbw2 c2
          replace c3 := cell_later hbw2 c3
          replace c4 := cell_later hbw2 c4
          replace c5 := cell_later hbw2 c5
          replace c6 := cell_later hbw2 c6
          replace c7 := cell_later hbw2 c7
          replace c8 := cell_later hbw2 c8
          replace c9 := cell_later hbw2 c9
          replace c10 := cell_later hbw2 c10
          have HE2 := Lib.hid (HE.out.later hbw2)
          clear hbw2
          go_wp2_with fail
          refine (values_b false H4.out (HE2.out.later (Below.refl _ _ ))).mono ?_
          rintro e w3 ⟨rfl, hbw3⟩
          have HBw3 := Lib.hid (below_then HBw2.out hbw3)
          clear hbw3
          go_wp2_with fail
          go_ret
          exact ⟨ret_bool HR.out.symm, HBw3.out⟩
        · have HR : Hid (fewQ nd nh ops els = true) := (by show _ = _; unfold fewQ; rw [H1.out, H2.out, H3.out, H4.out]; rfl)
          go_enter Tryz.func49, Tryz.ntmps49
          go_wp2_with fail
          rw [HW.out]
          go_wp2_with fail
          refine (values_b true H3.out (HO.out.later (Below.refl _ _))).mono ?_
          rintro e w2 ⟨rfl, hbw2⟩
          have HBw2 := Lib.hid (below_then HB.out hbw2)
          replace c0 := cell_later hbw2 c0
          replace c1 := cell_later hbw2 c1
          replace c2 := cell_later hbw2 c2
          replace c3 := cell_later hbw2 c3
          replace c4 := cell_later hbw2 c4
          replace c5 := cell_later hbw2 c5
          replace c6 := cell_later hbw2 c6
          replace c7 := cell_later hbw2 c7
          replace c8 := cell_later hbw2 c8
          replace c9 := cell_later hbw2 c9
          replace c10 := cell_later hbw2 c10
          have HE2 := Lib.hid (HE.out.later hbw2)
          clear hbw2
          go_wp2_with fail
          refine (values_b true H4.out (HE2.out.later (Below.refl _ _ ))).mono ?_
          rintro e w3 ⟨rfl, hbw3⟩
          have HBw3 := Lib.hid (below_then HBw2.out hbw3)
          clear hbw3
          go_wp2_with fail
          go_ret
          exact ⟨ret_bool HR.out.symm, HBw3.out⟩
end

section
open Go.RowKit Go.Sort Go.BigFrame

def inQ3 (n a b : Int) : Bool := decide (a ≤ n) && decide (n ≤ b)


end
end Go.Proofs.YtnolbabpkhdpmaaGreat
