/-
  Layer 24 (zset): are items one; may items be.
-/
import Derived.Test.YtgmemdhbnnhifaaZO
namespace Go.Proofs.Ytgmemdhbnnhifaa
open Go.RowKit Go.Sort Go.BigFrame

def sameI (a b : List It) : Bool := decide (a.map It.p = b.map It.p)

theorem sameI_len {a b : List It} (h : a.length ≠ b.length) : sameI a b = false := by
  refine decide_eq_false fun e => h ?_
  have := congrArg List.length e
  simpa using this

theorem sameI_at {a b : List It} {k : Nat} (ha : k < a.length) (hb : k < b.length) (h : a[k].p ≠ b[k].p) : sameI a b = false := by
  refine decide_eq_false fun e => h ?_
  have h1 : (a.map It.p)[k]? = (b.map It.p)[k]? := by rw [e]
  simpa [ha, hb] using h1

theorem map_next {a b : List It} {k : Nat} (ha : k < a.length) (hb : k < b.length) (h : (a.take k).map It.p = (b.take k).map It.p) (he : a[k].p = b[k].p) : (a.take (k + 1)).map It.p = (b.take (k + 1)).map It.p := by
  rw [List.take_succ_eq_append_getElem ha, List.take_succ_eq_append_getElem hb, List.map_append, List.map_append, h]
  simp [he]

set_option maxRecDepth 100000 in
set_option maxHeartbeats 4000000 in
theorem refSameI_any (va vb : Value) (a b : List It) (w : World) (ha : IRd w va a) (hb : IRd w vb b) (hn : a.length ≤ 1000000) :
    Calls Try.prog 15 #[va, vb] w fun e w' => e = .returned (.bool (sameI a b)) ∧ Below w.heap.size w w' := by
  obtain ⟨ao, c, rfl, hnc, hcm, _, _⟩ := id ha.1
  obtain ⟨bo, c', rfl, hnc', hcm', _, _⟩ := id hb.1
  obtain ⟨n, hln⟩ : ∃ n, a.length = n := ⟨_, rfl⟩
  obtain ⟨m, hlm⟩ : ∃ m, b.length = m := ⟨_, rfl⟩
  have HA := Lib.hid ha
  have HB := Lib.hid hb
  have HLN := Lib.hid hln
  have HLM := Lib.hid hlm
  rw [hln] at hnc hn
  rw [hlm] at hnc'
  rw [hln, hlm]
  unfold maxLen at hcm hcm'
  clear ha hb hln hlm
  by_cases hnm : n = m
  · subst hnm
    go_enter Try.func15, Try.ntmps15
    go_wp2
    go_loopw [5] (fun vi wr => ∃ k : Nat, k ≤ n ∧ vi = .int .i64 k ∧ Hid ((a.take k).map It.p = (b.take k).map It.p) ∧ Hid (Below w.heap.size w wr)) (fun vi _ => n - (intOf vi).toNat)
    case atStart => exact ⟨0, Nat.zero_le _, rfl, rfl, Below.refl _ _⟩
    case round =>
      obtain ⟨k, hk, rfl, heq, hbw⟩ := hrel
      rename World => wr
      by_cases hlt : k < n
      · have hka : k < a.length := by have := HLN.out; omega
        have hkb : k < b.length := by have := HLM.out; omega
        obtain ⟨b1, o1, x1, c0, c1, c2, _⟩ := rd_it (HA.out.1.later hbw.out) rfl k hka
        obtain ⟨b2, o2, x2, d0, d1, d2, _⟩ := rd_it (HB.out.1.later hbw.out) rfl k hkb
        rw [HLN.out] at x1
        rw [HLM.out] at x2
        have hva := (HA.out.2 _ (List.getElem_mem hka)).later hbw.out
        have hvb := (HB.out.2 _ (List.getElem_mem hkb)).later hbw.out
        have hat := @sameI_at a b k hka hkb
        have hnx := map_next hka hkb heq.out
        obtain ⟨x, hx⟩ : ∃ x, a[k] = x := ⟨_, rfl⟩
        obtain ⟨y, hy⟩ : ∃ y, b[k] = y := ⟨_, rfl⟩
        rw [hx] at c0 c1 c2 hva hat hnx
        rw [hy] at d0 d1 d2 hvb hat hnx
        have HVA := Lib.hid hva
        have HVB := Lib.hid hvb
        have HAT := Lib.hid hat
        have HNX := Lib.hid hnx
        clear hx hy hva hvb hat hnx
        unfold Vit at HVA HVB
        cases hs : sameR x.row y.row
        all_goals
          have cS : ∀ d os, Calls Try.prog 31 #[.slice x.ra x.rn x.rc, .slice y.ra y.rn y.rc] (grow (redrawn wr d) os) fun e w'' => e = .returned (.bool (sameR x.row y.row)) ∧ ∃ p : Regrown, w'' = grow (redrawn wr p.d) p.os := fun d os => Calls.regrown_of ((refSameR_any _ _ x.row y.row _ (HVA.out.later (below_regrown wr d os)) (HVB.out.later (below_regrown wr d os))))
          rw [hs] at cS
          have HS := Lib.hid hs
          clear hs
        · go_wp2_with fail
          have kc0 := cell_regrown c0
          have kc1 := cell_regrown c1
          have kc2 := cell_regrown c2
          have kd0 := cell_regrown d0
          have kd1 := cell_regrown d1
          have kd2 := cell_regrown d2
          refine wp_region_quiet_below (by kernel_rfl) (by kernel_rfl) ?_
          repeat (go_big_quiet_step (first | exact cS _ _))
          refine wpQuiet_nil ?_
          intro _ hw'
          obtain ⟨⟨dq, osq⟩, hw''⟩ := hw'
          subst hw''
          clear kc0 kc1 kc2 kd0 kd1 kd2 cS
          have hb2 := below_regrown wr dq osq
          generalize grow (redrawn wr dq) osq = w2 at *
          replace c0 := cell_later hb2 c0
          replace c1 := cell_later hb2 c1
          replace c2 := cell_later hb2 c2
          replace d0 := cell_later hb2 d0
          replace d1 := cell_later hb2 d1
          replace d2 := cell_later hb2 d2
          have HB2 := Lib.hid (below_then hbw.out hb2)
          clear hb2
          go_wp2_with fail
          have kc0 := cell_regrown c0
          have kc1 := cell_regrown c1
          have kc2 := cell_regrown c2
          have kd0 := cell_regrown d0
          have kd1 := cell_regrown d1
          have kd2 := cell_regrown d2
          refine wp_region_quiet_below (by kernel_rfl) (by kernel_rfl) ?_
          repeat (go_big_quiet_step (first | fail))
          refine wpQuiet_nil ?_
          intro _ hw'
          obtain ⟨⟨dq, osq⟩, hw''⟩ := hw'
          subst hw''
          clear kc0 kc1 kc2 kd0 kd1 kd2
          have hb3 := below_regrown w2 dq osq
          generalize grow (redrawn w2 dq) osq = w3 at *
          replace c0 := cell_later hb3 c0
          replace c1 := cell_later hb3 c1
          replace c2 := cell_later hb3 c2
          replace d0 := cell_later hb3 d0
          replace d1 := cell_later hb3 d1
          replace d2 := cell_later hb3 d2
          have HB3 := Lib.hid (below_then HB2.out hb3)
          clear hb3
          go_wp2_with fail
          go_ret
          refine ⟨ret_bool ?_, HB3.out⟩
          exact (HAT.out fun e => of_decide_eq_false HS.out (congrArg Prod.fst e)).symm
        · cases hm : (x.many != y.many)
          all_goals
            have HM := Lib.hid hm
          · go_wp2_with fail
            have kc0 := cell_regrown c0
            have kc1 := cell_regrown c1
            have kc2 := cell_regrown c2
            have kd0 := cell_regrown d0
            have kd1 := cell_regrown d1
            have kd2 := cell_regrown d2
            refine wp_region_quiet_below (by kernel_rfl) (by kernel_rfl) ?_
            repeat (go_big_quiet_step (first | exact cS _ _))
            refine wpQuiet_nil ?_
            intro _ hw'
            obtain ⟨⟨dq, osq⟩, hw''⟩ := hw'
            subst hw''
            clear kc0 kc1 kc2 kd0 kd1 kd2 cS
            have hb2 := below_regrown wr dq osq
            generalize grow (redrawn wr dq) osq = w2 at *
            replace c0 := cell_later hb2 c0
            replace c1 := cell_later hb2 c1
            replace c2 := cell_later hb2 c2
            replace d0 := cell_later hb2 d0
            replace d1 := cell_later hb2 d1
            replace d2 := cell_later hb2 d2
            have HB2 := Lib.hid (below_then hbw.out hb2)
            clear hb2
            go_wp2_with fail
            have kc0 := cell_regrown c0
            have kc1 := cell_regrown c1
            have kc2 := cell_regrown c2
            have kd0 := cell_regrown d0
            have kd1 := cell_regrown d1
            have kd2 := cell_regrown d2
            refine wp_region_quiet_below (by kernel_rfl) (by kernel_rfl) ?_
            repeat (go_big_quiet_step (first | fail))
            refine wpQuiet_nil ?_
            intro _ hw'
            obtain ⟨⟨dq, osq⟩, hw''⟩ := hw'
            subst hw''
            clear kc0 kc1 kc2 kd0 kd1 kd2
            have hb3 := below_regrown w2 dq osq
            generalize grow (redrawn w2 dq) osq = w3 at *
            replace c0 := cell_later hb3 c0
            replace c1 := cell_later hb3 c1
            replace c2 := cell_later hb3 c2
            replace d0 := cell_later hb3 d0
            replace d1 := cell_later hb3 d1
            replace d2 := cell_later hb3 d2
            have HB3 := Lib.hid (below_then HB2.out hb3)
            clear hb3
            go_wp2_with fail
            go_roundw
            case rel => exact ⟨k + 1, by omega, by go_num, HNX.out (Prod.ext (of_decide_eq_true HS.out) (by simpa using HM.out)), HB3.out⟩
            case measure => simp [intOf]; omega
          · go_wp2_with fail
            have kc0 := cell_regrown c0
            have kc1 := cell_regrown c1
            have kc2 := cell_regrown c2
            have kd0 := cell_regrown d0
            have kd1 := cell_regrown d1
            have kd2 := cell_regrown d2
            refine wp_region_quiet_below (by kernel_rfl) (by kernel_rfl) ?_
            repeat (go_big_quiet_step (first | exact cS _ _))
            refine wpQuiet_nil ?_
            intro _ hw'
            obtain ⟨⟨dq, osq⟩, hw''⟩ := hw'
            subst hw''
            clear kc0 kc1 kc2 kd0 kd1 kd2 cS
            have hb2 := below_regrown wr dq osq
            generalize grow (redrawn wr dq) osq = w2 at *
            replace c0 := cell_later hb2 c0
            replace c1 := cell_later hb2 c1
            replace c2 := cell_later hb2 c2
            replace d0 := cell_later hb2 d0
            replace d1 := cell_later hb2 d1
            replace d2 := cell_later hb2 d2
            have HB2 := Lib.hid (below_then hbw.out hb2)
            clear hb2
            go_wp2_with fail
            have kc0 := cell_regrown c0
            have kc1 := cell_regrown c1
            have kc2 := cell_regrown c2
            have kd0 := cell_regrown d0
            have kd1 := cell_regrown d1
            have kd2 := cell_regrown d2
            refine wp_region_quiet_below (by kernel_rfl) (by kernel_rfl) ?_
            repeat (go_big_quiet_step (first | fail))
            refine wpQuiet_nil ?_
            intro _ hw'
            obtain ⟨⟨dq, osq⟩, hw''⟩ := hw'
            subst hw''
            clear kc0 kc1 kc2 kd0 kd1 kd2
            have hb3 := below_regrown w2 dq osq
            generalize grow (redrawn w2 dq) osq = w3 at *
            replace c0 := cell_later hb3 c0
            replace c1 := cell_later hb3 c1
            replace c2 := cell_later hb3 c2
            replace d0 := cell_later hb3 d0
            replace d1 := cell_later hb3 d1
            replace d2 := cell_later hb3 d2
            have HB3 := Lib.hid (below_then HB2.out hb3)
            clear hb3
            go_wp2_with fail
            go_ret
            refine ⟨ret_bool ?_, HB3.out⟩
            exact (HAT.out fun e => by have h1 : x.many = y.many := congrArg Prod.snd e; have := HM.out; rw [h1] at this; simp at this).symm
      · have hkn : k = n := by omega
        subst hkn
        have hf : sameI a b = true := by
          have := heq.out
          rw [List.take_of_length_le (by have := HLN.out; omega), List.take_of_length_le (by have := HLM.out; omega)] at this
          exact decide_eq_true this
        have HF := Lib.hid hf
        clear hf
        go_wp2_with fail
        go_ret
        exact ⟨ret_bool HF.out.symm, hbw.out⟩
  · have hf : sameI a b = false := sameI_len (by rw [HLN.out, HLM.out]; exact hnm)
    have HF := Lib.hid hf
    clear hf
    have hq : ((n : Int) != (m : Int)) = true := by simp; omega
    go_enter Try.func15, Try.ntmps15
    go_wp2
    go_ret
    exact ⟨ret_bool HF.out.symm, Below.refl _ _⟩

/-- The item at place k may be there. -/
def RightAt (l : List It) (k : Nat) : Prop := ∃ x, l[k]? = some x ∧ x.many ≠ 0 ∧ x.bn = 0 ∧ ∀ y, 0 < k → l[k - 1]? = some y → lessR y.row x.row = true
def RightP (l : List It) : Prop := ∀ k, k < l.length → RightAt l k
def RightPost (w : World) (l : List It) (e : Ending) (w' : World) : Prop := ∃ b, e = .returned (.bool b) ∧ (b = true ↔ RightP l) ∧ Below w.heap.size w w'

theorem right_not {l : List It} {k : Nat} (hk : k < l.length) (h : ¬ RightAt l k) : (((false : Bool) = true) ↔ RightP l) := by
  constructor
  · intro e; cases e
  · intro e; exact absurd (e k hk) h
theorem right_next {l : List It} {k : Nat} (h : ∀ j, j < k → RightAt l j) (h' : RightAt l k) : ∀ j, j < k + 1 → RightAt l j := fun j hj => by
  rcases Nat.lt_or_ge j k with h1 | h1
  · exact h j h1
  · obtain rfl : j = k := by omega
    exact h'
theorem right_zero {l : List It} {k : Nat} (hk : k < l.length) (h : l[k].many = 0) : ¬ RightAt l k := fun ⟨x, hx, h1, _⟩ => by
  rw [List.getElem?_eq_getElem hk] at hx; cases hx; exact h1 h
theorem right_by {l : List It} {k : Nat} (hk : k < l.length) (h : 0 < l[k].bn) : ¬ RightAt l k := fun ⟨x, hx, _, h1, _⟩ => by
  rw [List.getElem?_eq_getElem hk] at hx; cases hx; omega
theorem right_less {l : List It} {k : Nat} (hk : k + 1 < l.length) (h : lessR (l[k]'(by omega)).row l[k + 1].row = false) : ¬ RightAt l (k + 1) := fun ⟨x, hx, _, _, h1⟩ => by
  rw [List.getElem?_eq_getElem hk] at hx; cases hx
  have := h1 (l[k]'(by omega)) (by omega) (by simp [List.getElem?_eq_getElem (show k < l.length by omega)])
  rw [h] at this; cases this
theorem right_yes0 {l : List It} (hk : 0 < l.length) (h : l[0].many ≠ 0) (h' : l[0].bn = 0) : RightAt l 0 :=
  ⟨l[0], List.getElem?_eq_getElem hk, h, h', fun y h => absurd h (by omega)⟩
theorem right_yes {l : List It} {k : Nat} (hk : k + 1 < l.length) (h : l[k + 1].many ≠ 0) (h' : l[k + 1].bn = 0) (hl : lessR (l[k]'(by omega)).row l[k + 1].row = true) : RightAt l (k + 1) :=
  ⟨l[k + 1], List.getElem?_eq_getElem hk, h, h', fun y _ hy => by
    rw [Nat.add_sub_cancel, List.getElem?_eq_getElem (by omega)] at hy; cases hy; exact hl⟩
end Go.Proofs.Ytgmemdhbnnhifaa
