/-
  Layer 17 (tx): the document's some, getHands, getOps. (printed by tools/gen_wh.py)
-/
import Derived.Test.YtliokkoalkhpaaaWD
namespace Go.Proofs.Ytliokkoalkhpaaa
open Go.RowKit Go.Sort Go.BigFrame
attribute [local irreducible] FlowW

theorem refNumsGet_no {v : Value} {b : List UInt8} {n : Nat} {w : World} (h : Rd w v n (b.map bc)) (hn : b.length = n) (hl : n ≤ 1000000000) (hg : getNums b = none) :
    Calls Try.prog 48 #[v] w fun e w' => e = .returned (.tuple #[.slice none 0 0, .int .i64 0, .int .i64 3]) ∧ Below w.heap.size w w' := by
  subst hn
  refine (refGetNums_any v b w h hl).mono ?_
  rintro e w' ⟨hb, ⟨_, rfl⟩ | ⟨v', l, k, he, _⟩⟩
  · exact ⟨rfl, hb⟩
  · rw [hg] at he; cases he
theorem refNumsGet_yes {v : Value} {b : List UInt8} {n : Nat} {w : World} (h : Rd w v n (b.map bc)) (hn : b.length = n) (hl : n ≤ 1000000000) {l : List Int} {k : Nat} (hg : getNums b = some (l, k)) :
    Calls Try.prog 48 #[v] w fun e w' => ∃ a c, e = .returned (.tuple #[.slice a l.length c, .int .i64 k, .int .i64 0]) ∧ w'.ownsRow w.heap.size 3 1 (.slice a l.length c) l.length (l.map ic) ∧ Below w.heap.size w w' := by
  subst hn
  refine (refGetNums_any v b w h hl).mono ?_
  rintro e w' ⟨hb, ⟨he, _⟩ | ⟨v', l', k', he, rfl, ho⟩⟩
  · rw [hg] at he; cases he
  · rw [hg] at he
    cases he
    obtain ⟨a, c, rfl, -⟩ := Rd.of_own ho
    exact ⟨a, c, rfl, ho, hb⟩
theorem refRowGet_no {v : Value} {b : List UInt8} {n : Nat} {w : World} (h : Rd w v n (b.map bc)) (hn : b.length = n) (hl : n ≤ 1000000000) (hg : getR b = none) :
    Calls Try.prog 71 #[v] w fun e w' => e = .returned (.tuple #[.slice none 0 0, .int .i64 0, .int .i64 3]) ∧ Below w.heap.size w w' := by
  subst hn
  refine (refGetR_any v b w h hl).mono ?_
  rintro e w' ⟨hb, ⟨_, rfl⟩ | ⟨v', l, k, he, _⟩⟩
  · exact ⟨rfl, hb⟩
  · rw [hg] at he; cases he
theorem refRowGet_yes {v : Value} {b : List UInt8} {n : Nat} {w : World} (h : Rd w v n (b.map bc)) (hn : b.length = n) (hl : n ≤ 1000000000) {l : List Val} {k : Nat} (hg : getR b = some (l, k)) :
    Calls Try.prog 71 #[v] w fun e w' => ∃ a c, e = .returned (.tuple #[.slice a l.length c, .int .i64 k, .int .i64 0]) ∧ w'.ownsRow w.heap.size 87 3 (.slice a l.length c) l.length (rowCs l) ∧ Below w.heap.size w w' := by
  subst hn
  refine (refGetR_any v b w h hl).mono ?_
  rintro e w' ⟨hb, ⟨he, _⟩ | ⟨v', l', k', he, rfl, ho⟩⟩
  · rw [hg] at he; cases he
  · rw [hg] at he
    cases he
    obtain ⟨a, c, rfl, -⟩ := Rd.of_own ho
    exact ⟨a, c, rfl, ho, hb⟩
/-- What one of the document's readers leaves. -/
def RefP {α : Type} (w0 w : World) (n : Nat) (b : List UInt8) (d : List UInt8 → Option (α × Nat)) (R : World → Value → α → Prop) (e : Ending) (w' : World) : Prop :=
  Below w.heap.size w w' ∧ ((d b = none ∧ e = .returned (.tuple #[.slice none 0 0, .slice none 0 0, .bool false])) ∨
    ∃ v x k a c, d b = some (x, k) ∧ k ≤ n ∧ e = .returned (.tuple #[v, .slice a (n - k) c, .bool true]) ∧ Rd w0 (.slice a (n - k) c) (n - k) ((b.drop k).map bc) ∧ R w' v x)

set_option maxRecDepth 100000 in
set_option maxHeartbeats 4000000 in
theorem refSome_any {v : Value} {b : List UInt8} {n : Nat} {w0 w : World} (h : Rd w0 v n (b.map bc)) (hb : Below w0.heap.size w0 w) (hn : b.length = n) (hl : n ≤ 1000000000) :
    Calls Try.prog 46 #[v, .int .i64 7] w (RefP w0 w n b sevenD fun w' v l => ∃ a c, v = .slice a l.length c ∧ w'.ownsRow w.heap.size 3 1 (.slice a l.length c) l.length (l.map ic)) := by
  obtain ⟨a, c, rfl, hnc, hcm, -, -⟩ := id h
  unfold maxLen at hcm
  have HB0 := Lib.hid hb
  have HR := Lib.hid (h.later hb)
  have HN := Lib.hid hn
  cases hg : getNums b with
  | none =>
    have HG := Lib.hid hg
    have HS : Hid (sevenD b = none) := by show _ = _; unfold sevenD onlyD; rw [hg]
    clear h hb hn hg
    go_enter Try.func46, Try.ntmps46
    go_wp2_with fail
    refine (refNumsGet_no HR.out HN.out hl HG.out).mono ?_
    rintro e w1 ⟨rfl, hb1⟩
    have HB1 := Lib.hid hb1
    clear hb1
    go_wp2_with fail
    go_ret3
    exact ⟨HB1.out, .inl ⟨HS.out, rfl⟩⟩
  | some p =>
    obtain ⟨l, k⟩ := p
    have HG := Lib.hid hg
    have hkl := (getNums_takes _ _ _ hg).2
    by_cases h7 : l.length = 7
    · have e7 : ((l.length : Int) != 7) = false := by simp [h7]
      have HS : Hid (sevenD b = some (l, k)) := by show _ = _; unfold sevenD onlyD; rw [hg]; simp [h7]
      obtain ⟨a2, c2, hsl, hrs⟩ := run_part_lo elB h (by simp [hn]) k (by omega)
      rw [Nat.mul_one, ← List.map_drop] at hrs
      have HRS := Lib.hid hrs
      have hkn : k ≤ n := by omega
      clear h hb hn hg hrs h7
      go_enter Try.func46, Try.ntmps46
      go_wp2_with fail
      refine (refNumsGet_yes HR.out HN.out hl HG.out).mono ?_
      rintro e w1 ⟨av, cv, rfl, hown1, hb1⟩
      have HB1 := Lib.hid hb1
      have HO1 := Lib.hid hown1
      clear hb1 hown1
      go_wp2_with fail
      refine wp_region_flow (by kernel_rfl) 7 [] (by kernel_rfl) ?_ ?_ ?_
      · intro x hx; cases hx
      · intro x hx; cases hx
      · intro lo hi
        refine flowW_plain rfl ?_
        go_big_quiet_step (fail)
        refine wpQuiet_nil ?_
        refine flowW_plain rfl ?_
        go_big_quiet_step (fail)
        refine wpQuiet_nil ?_
        refine flowW_plain rfl ?_
        go_big_quiet_step (fail)
        refine wpQuiet_nil ?_
        refine flowW_plain rfl ?_
        go_big_quiet_step (fail)
        refine wpQuiet_nil ?_
        refine flowW_plain rfl ?_
        go_big_quiet_step (fail)
        refine wpQuiet_nil ?_
        refine flowW_plain rfl ?_
        go_big_quiet_step (fail)
        refine wpQuiet_nil ?_
        refine flowW_plain rfl ?_
        go_big_quiet_step (fail)
        refine wpQuiet_nil ?_
        refine flowW_end fun w2 hw2 hF hD => ?_
        simp only [List.drop_succ_cons, List.drop_zero]
        have HB2 := Lib.hid (below_then HB1.out hw2)
        have HO2 := Lib.hid (own_later HO1.out hw2)
        clear hw2 hF hD
        go_wp2_with fail
        go_ret3
        exact ⟨HB2.out, .inr ⟨_, l, k, a2, c2, HS.out, hkn, rfl, HRS.out, av, cv, rfl, HO2.out⟩⟩
    · have e7 : ((l.length : Int) != 7) = true := by simp; omega
      have HS : Hid (sevenD b = none) := by show _ = _; unfold sevenD onlyD; rw [hg]; simp [h7]
      clear h hb hn hg h7
      go_enter Try.func46, Try.ntmps46
      go_wp2_with fail
      refine (refNumsGet_yes HR.out HN.out hl HG.out).mono ?_
      rintro e w1 ⟨av, cv, rfl, hown1, hb1⟩
      have HB1 := Lib.hid hb1
      clear hb1 hown1
      go_wp2_with fail
      go_ret3
      exact ⟨HB1.out, .inl ⟨HS.out, rfl⟩⟩

set_option maxRecDepth 100000 in
set_option maxHeartbeats 16000000 in
theorem refGetHands_any {v : Value} {b : List UInt8} {n : Nat} {w0 w : World} (h : Rd w0 v n (b.map bc)) (hb : Below w0.heap.size w0 w) (hn : b.length = n) (hl : n ≤ 1000000000) :
    Calls Try.prog 50 #[v] w (RefP w0 w n b handsD fun w' v x => ∃ (ms : List HandT) (a : Option Addr) (c : Nat), ms = x ∧ v = .slice a ms.length c ∧ w'.ownsRow w.heap.size 67 7 (.slice a ms.length c) ms.length (ms.flatMap HandT.cs)) := by
  obtain ⟨a, c, rfl, hnc, hcm, -, -⟩ := id h
  unfold maxLen at hcm
  have HB0 := Lib.hid hb
  have HR := Lib.hid (h.later hb)
  have HN := Lib.hid hn
  cases hg : get b with
  | none =>
    have HG := Lib.hid hg
    have HS : Hid (handsD b = none) := many_no handD_takes (by unfold manyD onlyD; rw [hg])
    clear h hb hn hg
    go_enter Try.func50, Try.ntmps50
    go_wp2_with fail
    refine (refGet_no HR.out HN.out.symm HG.out).mono ?_
    rintro e w1 ⟨rfl, hb1⟩
    have HBX := Lib.hid hb1
    clear hb1
    go_wp2_with fail
    go_ret3
    exact ⟨HBX.out, .inl ⟨HS.out, rfl⟩⟩
  | some p =>
    obtain ⟨x, k0⟩ := p
    have HG := Lib.hid hg
    have hkl := (get_takes _ _ _ hg).2
    have hx1 := (get_some hg).1
    have hx2 := (get_some hg).2.1
    cases hi : inQ3 x 0 2000
    · have HI := Lib.hid hi
      have HS : Hid (handsD b = none) := many_no handD_takes (by unfold manyD onlyD; rw [hg]; simp [hi])
      clear h hb hn hg hi
      go_enter Try.func50, Try.ntmps50
      go_wp2_with fail
      refine (refGet_yes HR.out HN.out.symm HG.out).mono ?_
      rintro e w1 ⟨rfl, hb1⟩
      have HBX := Lib.hid hb1
      clear hb1
      go_wp2_with fail
      refine (refIn_b false HI.out).mono ?_
      rintro e w2 ⟨rfl, rfl⟩
      go_wp2_with fail
      go_ret3
      exact ⟨HBX.out, .inl ⟨HS.out, rfl⟩⟩
    · have HI := Lib.hid hi
      unfold inQ3 at hi
      rw [Bool.and_eq_true, decide_eq_true_eq, decide_eq_true_eq] at hi
      obtain ⟨m, rfl⟩ := Int.eq_ofNat_of_zero_le hi.1
      have hm : m ≤ 2000 := by omega
      have HS0 := Lib.hid (roundsD_start (d := handD) hg)
      obtain ⟨a0, c0, hsl0, hrs0⟩ := run_part_lo elB h (by simp [hn]) k0 (by omega)
      rw [Nat.mul_one, ← List.map_drop] at hrs0
      have HRS0 := Lib.hid hrs0
      have hkn0 : k0 ≤ n := by omega
      clear h hb hn hg hi hrs0
      go_enter Try.func50, Try.ntmps50
      go_wp2_with fail
      refine (refGet_yes HR.out HN.out.symm HG.out).mono ?_
      rintro e w1 ⟨rfl, hb1⟩
      have HB1 := Lib.hid hb1
      clear hb1
      go_wp2_with fail
      refine (refIn_b true HI.out).mono ?_
      rintro e w2 ⟨rfl, rfl⟩
      go_wp2_with fail
      go_loopw [0, 8, 9] (fun vb vo vi wr => ∃ (j k : Nat) (ms : List HandT) (oa : Option Addr) (oc : Nat) (ba : Option Addr) (bcap : Nat), j ≤ m ∧ vi = .int .i64 j ∧ vo = .slice oa ms.length oc ∧ k ≤ n ∧ vb = .slice ba (n - k) bcap ∧ Hid (ms.length = j) ∧ Hid (RoundsD handD b (m - j) k (ms)) ∧ Hid (wr.ownsRow w.heap.size 67 7 (.slice oa ms.length oc) ms.length (ms.flatMap HandT.cs)) ∧ Hid (Rd w0 (.slice ba (n - k) bcap) (n - k) ((b.drop k).map bc)) ∧ Hid (Below w.heap.size w wr)) (fun _ _ vi _ => m - (intOf vi).toNat)
      case atStart => exact ⟨0, k0, [], none, 0, a0, c0, Nat.zero_le _, rfl, rfl, hkn0, rfl, rfl, HS0.out, World.ownsRow_nil _ _ _ _, HRS0.out, HB1.out⟩
      case round =>
        obtain ⟨j, k, ms, oa, oc, ba, bcap, hj, rfl, rfl, hk, rfl, HML, HRO, HOW, HRB, HBW⟩ := hrel
        rename World => wr
        have hbc : bcap ≤ maxLen := by obtain ⟨_, _, hv, -, h1, -, -⟩ := id HRB.out; cases hv; exact h1
        have hbc2 : n - k ≤ bcap := by obtain ⟨_, _, hv, h1, -, -, -⟩ := id HRB.out; cases hv; omega
        unfold maxLen at hbc
        by_cases hlt : j < m
        · obtain ⟨left, hleft⟩ : ∃ left, m - j = left + 1 := ⟨m - j - 1, by omega⟩
          have HR2 : Hid (RoundsD handD b (left + 1) k (ms)) := by have := HRO.out; rwa [hleft] at this
          have HL : Hid (m - (j + 1) = left) := by show _ = _; omega
          have hml : ms.length ≤ 2000 := by have := HML.out; omega
          have hlen : (b.drop k).length = n - k := by rw [List.length_drop, HN.out]
          have C := Lib.hid (refSome_any HRB.out (below_then HB0.out HBW.out) hlen (by omega))
          have HLEN := Lib.hid hlen
          clear hleft hlen
          go_wp2_with fail
          refine C.out.mono ?_
          rintro e w3 ⟨hb3, hc | hc⟩
          · obtain ⟨hd, rfl⟩ := hc
            have HS : Hid (handsD b = none) := by show handsD b = none; unfold handsD onlyD; rw [roundsD_fail HR2.out (by unfold handD mapD; rw [hd]; rfl)]
            have HBX := Lib.hid (below_then HBW.out hb3)
            clear hd hb3 C
            go_wp2_with fail
            go_ret3
            exact ⟨HBX.out, .inl ⟨HS.out, rfl⟩⟩
          · obtain ⟨v, l, k1, sa, sc, hd, hk1, rfl, hrs, av, cv, rfl, hown⟩ := hc
            have hl7 : l.length = 7 := (sevenD_puts.2 _ _ _ hd).1.1
            obtain ⟨x0, x1, x2, x3, x4, x5, x6, rfl⟩ := seven_of hl7
            have HD := Lib.hid hd
            have HRS := Lib.hid hrs
            have HB3 := Lib.hid (below_then HBW.out hb3)
            have HLI := Lib.hid hown
            have HOW3 : Hid (w3.ownsRow w.heap.size 67 7 (.slice oa ms.length oc) ms.length (ms.flatMap HandT.cs)) := own_later HOW.out hb3
            have hcv : 7 ≤ cv := by obtain ⟨_, _, hv, h1, -, -, -⟩ := Rd.of_own hown; cases hv; exact h1
            have hcw : cv ≤ maxLen := by obtain ⟨_, _, hv, -, h1, -, -⟩ := Rd.of_own hown; cases hv; exact h1
            unfold maxLen at hcw
            clear hd hb3 hown hrs hl7 C
            have hrl : Rd w3 (.slice av 7 cv) 7 ([x0, x1, x2, x3, x4, x5, x6].map ic) := Rd.of_own HLI.out
            obtain ⟨A0, A1, A2, A3, A4, A5, A6, i0, i1, i2, i3, i4, i5, i6, d0, d1, d2, d3, d4, d5, d6⟩ := seven_rd hrl
            clear hrl
            have HNX := Lib.hid (roundsD_next HR2.out (show handD (b.drop k) = some (handOf [x0, x1, x2, x3, x4, x5, x6], k1) by unfold handD mapD; rw [HD.out]; rfl))
            have HB4 := HB3
            have HOW4 := HOW3
            go_wp2_with fail
            refine wp_region_flow (by kernel_rfl) 25 [(24, ⟨fun v => ∃ g : Nat, v = .slice (some ⟨g, 0, none⟩) 1 1, fun v _ _ w' => ∃ g : Nat, v = .slice (some ⟨g, 0, none⟩) 1 1 ∧ Bx w' g #[.int .i64 x0, .int .i64 x1, .int .i64 x2, .int .i64 x3, .int .i64 x4, .int .i64 x5, .int .i64 x6] 67⟩)] (by kernel_rfl) ?_ ?_ ?_
            · intro x hx
              simp only [List.mem_cons, List.not_mem_nil, or_false] at hx
              subst hx
              exact ⟨_, 0, rfl⟩
            · intro x hx v lo hi w w' h hb
              simp only [List.mem_cons, List.not_mem_nil, or_false] at hx
              subst hx
              obtain ⟨g, rfl, h1⟩ := h
              exact ⟨g, rfl, bx_later hb h1⟩
            · intro lo hi
              have kd0 := cell_regrown d0
              have kd1 := cell_regrown d1
              have kd2 := cell_regrown d2
              have kd3 := cell_regrown d3
              have kd4 := cell_regrown d4
              have kd5 := cell_regrown d5
              have kd6 := cell_regrown d6
              refine flowW_plain rfl ?_
              go_big_quiet_step (fail)
              refine wpQuiet_nil ?_
              refine flowW_plain rfl ?_
              go_big_quiet_step (fail)
              refine wpQuiet_nil ?_
              refine flowW_plain rfl ?_
              go_big_quiet_step (fail)
              refine wpQuiet_nil ?_
              refine flowW_plain rfl ?_
              go_big_quiet_step (fail)
              refine wpQuiet_nil ?_
              refine flowW_plain rfl ?_
              go_big_quiet_step (fail)
              refine wpQuiet_nil ?_
              refine flowW_plain rfl ?_
              go_big_quiet_step (fail)
              refine wpQuiet_nil ?_
              refine flowW_plain rfl ?_
              go_big_quiet_step (fail)
              refine wpQuiet_nil ?_
              refine flowW_plain rfl ?_
              go_big_quiet_step (fail)
              refine wpQuiet_nil ?_
              refine flowW_plain rfl ?_
              go_big_quiet_step (fail)
              refine wpQuiet_nil ?_
              refine flowW_plain rfl ?_
              go_big_quiet_step (fail)
              refine wpQuiet_nil ?_
              refine flowW_plain rfl ?_
              go_big_quiet_step (fail)
              refine wpQuiet_nil ?_
              refine flowW_plain rfl ?_
              go_big_quiet_step (fail)
              refine wpQuiet_nil ?_
              refine flowW_plain rfl ?_
              go_big_quiet_step (fail)
              refine wpQuiet_nil ?_
              refine flowW_plain rfl ?_
              go_big_quiet_step (fail)
              refine wpQuiet_nil ?_
              refine flowW_plain rfl ?_
              go_big_quiet_step (fail)
              refine wpQuiet_nil ?_
              refine flowW_plain rfl ?_
              go_big_quiet_step (fail)
              refine wpQuiet_nil ?_
              refine flowW_plain rfl ?_
              go_big_quiet_step (fail)
              refine wpQuiet_nil ?_
              refine flowW_plain rfl ?_
              go_big_quiet_step (fail)
              refine wpQuiet_nil ?_
              refine flowW_plain rfl ?_
              go_big_quiet_step (fail)
              refine wpQuiet_nil ?_
              refine flowW_plain rfl ?_
              go_big_quiet_step (fail)
              refine wpQuiet_nil ?_
              refine flowW_plain rfl ?_
              go_big_quiet_step (fail)
              refine wpQuiet_nil ?_
              refine flowW_plain rfl ?_
              go_big_quiet_step (fail)
              refine wpQuiet_nil ?_
              refine flowW_plain rfl ?_
              go_big_quiet_step (fail)
              refine wpQuiet_nil ?_
              refine flowW_plain rfl ?_
              go_big_quiet_step (fail)
              refine wpQuiet_nil ?_
              refine flowW_call rfl rfl ?_ ?_
              · intro W hW hF K hK
                clear kd0 kd1 kd2 kd3 kd4 kd5 kd6
                go_wp2_with fail
                exact hK _ _ ⟨_, rfl⟩ ⟨_, rfl, bx_new rfl⟩ (below_alloc _ _)
              rintro v ⟨g24, rfl⟩ K hK
              go_simp
              refine hK _ ?_
              clear hK K
              refine flowW_end fun we hwe hF hD => ?_
              clear kd0 kd1 kd2 kd3 kd4 kd5 kd6
              simp only [List.drop_succ_cons, List.drop_zero]
              obtain ⟨_, he, bg⟩ := hF 24
              cases he
              have hoe := own_later HOW4.out hwe
              have hsrc : Src Try.prog we 7 (.slice (some ⟨g24, 0, none⟩) 1 1) 1 (#[.int .i64 x0, .int .i64 x1, .int .i64 x2, .int .i64 x3, .int .i64 x4, .int .i64 x5, .int .i64 x6] : Array Value).toList := Src.of_rd (rd_of_bx bg 1 (by decide)) rfl
              have hbe := below_then HB4.out hwe
              go_wp2_with (at_builtin; refine wpList_app elHand ⟨_, elHand.ty, fun k h => nomatch h⟩ rfl _ _ rfl rfl rfl hoe hsrc (fun q hq => List.all_eq_true.1 (show (#[.int .i64 x0, .int .i64 x1, .int .i64 x2, .int .i64 x3, .int .i64 x4, .int .i64 x5, .int .i64 x6] : Array Value).toList.all (fun q => q.oneCell') = true from rfl) q hq) (by unfold maxLen; omega) (by omega) hbe.size ?_; intro v5 w5 hown5 hgrow5 hblk5)
              have hgr : we.grownBy w5 (Value.slice oa ms.length oc).ownBlock := hgrow5
              have hbw5 := hbe.grown hgr hbe.size (fun k hk => (hoe.lt k hk).1)
              obtain ⟨oa5, oc5, rfl, -⟩ := Rd.of_own hown5
              have HO5 := Lib.hid hown5
              have HB5 := Lib.hid hbw5
              clear hF hD hwe bg hoe hsrc hbe hown5 hgrow5 hblk5 hgr hbw5 d0 d1 d2 d3 d4 d5 d6
              go_wp2_with fail
              go_roundw
              case rel =>
                refine ⟨j + 1, k + k1, ms ++ [handOf [x0, x1, x2, x3, x4, x5, x6]], oa5, oc5, sa, sc, by omega, by go_num, by rw [List.length_append]; rfl, by omega, ?_, (by show _ = _; rw [List.length_append, HML.out]; rfl), ?_, ?_, ?_, HB5.out⟩
                · rw [Nat.sub_sub]
                · show RoundsD handD b _ _ _
                  rw [HL.out]
                  exact HNX.out
                · show World.ownsRow _ _ _ _ _ _ _
                  rw [List.length_append, List.flatMap_append]
                  simpa [HandT.cs, handOf] using HO5.out
                · show Rd _ _ _ _
                  have := HRS.out
                  rw [List.drop_drop] at this
                  rw [← Nat.sub_sub]
                  exact this
              case measure => simp [intOf]; omega
        · have hjm : j = m := by omega
          have HS : Hid (handsD b = some (ms, k)) := by
            show _ = _
            have h1 := HRO.out
            rw [hjm, Nat.sub_self] at h1
            unfold handsD onlyD
            rw [roundsD_end h1]
            simp only
            rw [if_pos]
            rw [decide_eq_true_eq]
            have := HML.out
            omega
          clear hjm
          go_wp2_with fail
          go_ret3
          exact ⟨HBW.out, .inr ⟨_, _, k, ba, bcap, HS.out, hk, rfl, HRB.out, ms, oa, oc, rfl, rfl, HOW.out⟩⟩

set_option maxRecDepth 100000 in
set_option maxHeartbeats 16000000 in
theorem refGetOps_any {v : Value} {b : List UInt8} {n : Nat} {w0 w : World} (h : Rd w0 v n (b.map bc)) (hb : Below w0.heap.size w0 w) (hn : b.length = n) (hl : n ≤ 1000000000) :
    Calls Try.prog 49 #[v] w (RefP w0 w n b opsD fun w' v x => ∃ (ms : List OpM) (a : Option Addr) (c : Nat), ms.map OpM.op = x ∧ v = .slice a ms.length c ∧ OwnOps w' w.heap.size (.slice a ms.length c) ms) := by
  obtain ⟨a, c, rfl, hnc, hcm, -, -⟩ := id h
  unfold maxLen at hcm
  have HB0 := Lib.hid hb
  have HR := Lib.hid (h.later hb)
  have HN := Lib.hid hn
  cases hg : get b with
  | none =>
    have HG := Lib.hid hg
    have HS : Hid (opsD b = none) := many_no opD_takes (by unfold manyD onlyD; rw [hg])
    clear h hb hn hg
    go_enter Try.func49, Try.ntmps49
    go_wp2_with fail
    refine (refGet_no HR.out HN.out.symm HG.out).mono ?_
    rintro e w1 ⟨rfl, hb1⟩
    have HBX := Lib.hid hb1
    clear hb1
    go_wp2_with fail
    go_ret3
    exact ⟨HBX.out, .inl ⟨HS.out, rfl⟩⟩
  | some p =>
    obtain ⟨x, k0⟩ := p
    have HG := Lib.hid hg
    have hkl := (get_takes _ _ _ hg).2
    have hx1 := (get_some hg).1
    have hx2 := (get_some hg).2.1
    cases hi : inQ3 x 0 2000
    · have HI := Lib.hid hi
      have HS : Hid (opsD b = none) := many_no opD_takes (by unfold manyD onlyD; rw [hg]; simp [hi])
      clear h hb hn hg hi
      go_enter Try.func49, Try.ntmps49
      go_wp2_with fail
      refine (refGet_yes HR.out HN.out.symm HG.out).mono ?_
      rintro e w1 ⟨rfl, hb1⟩
      have HBX := Lib.hid hb1
      clear hb1
      go_wp2_with fail
      refine (refIn_b false HI.out).mono ?_
      rintro e w2 ⟨rfl, rfl⟩
      go_wp2_with fail
      go_ret3
      exact ⟨HBX.out, .inl ⟨HS.out, rfl⟩⟩
    · have HI := Lib.hid hi
      unfold inQ3 at hi
      rw [Bool.and_eq_true, decide_eq_true_eq, decide_eq_true_eq] at hi
      obtain ⟨m, rfl⟩ := Int.eq_ofNat_of_zero_le hi.1
      have hm : m ≤ 2000 := by omega
      have HS0 := Lib.hid (roundsD_start (d := opD) hg)
      obtain ⟨a0, c0, hsl0, hrs0⟩ := run_part_lo elB h (by simp [hn]) k0 (by omega)
      rw [Nat.mul_one, ← List.map_drop] at hrs0
      have HRS0 := Lib.hid hrs0
      have hkn0 : k0 ≤ n := by omega
      clear h hb hn hg hi hrs0
      go_enter Try.func49, Try.ntmps49
      go_wp2_with fail
      refine (refGet_yes HR.out HN.out.symm HG.out).mono ?_
      rintro e w1 ⟨rfl, hb1⟩
      have HB1 := Lib.hid hb1
      clear hb1
      go_wp2_with fail
      refine (refIn_b true HI.out).mono ?_
      rintro e w2 ⟨rfl, rfl⟩
      go_wp2_with fail
      go_loopw [0, 8, 9] (fun vb vo vi wr => ∃ (j k : Nat) (ms : List OpM) (oa : Option Addr) (oc : Nat) (ba : Option Addr) (bcap : Nat), j ≤ m ∧ vi = .int .i64 j ∧ vo = .slice oa ms.length oc ∧ k ≤ n ∧ vb = .slice ba (n - k) bcap ∧ Hid (ms.length = j) ∧ Hid (RoundsD opD b (m - j) k (ms.map OpM.op)) ∧ Hid (OwnOps wr w.heap.size (.slice oa ms.length oc) ms) ∧ Hid (Rd w0 (.slice ba (n - k) bcap) (n - k) ((b.drop k).map bc)) ∧ Hid (Below w.heap.size w wr)) (fun _ _ vi _ => m - (intOf vi).toNat)
      case atStart => exact ⟨0, k0, [], none, 0, a0, c0, Nat.zero_le _, rfl, rfl, hkn0, rfl, rfl, HS0.out, ⟨World.ownsRow_nil _ _ _ _, fun m hm => nomatch hm⟩, HRS0.out, HB1.out⟩
      case round =>
        obtain ⟨j, k, ms, oa, oc, ba, bcap, hj, rfl, rfl, hk, rfl, HML, HRO, HOW, HRB, HBW⟩ := hrel
        rename World => wr
        have hbc : bcap ≤ maxLen := by obtain ⟨_, _, hv, -, h1, -, -⟩ := id HRB.out; cases hv; exact h1
        have hbc2 : n - k ≤ bcap := by obtain ⟨_, _, hv, h1, -, -, -⟩ := id HRB.out; cases hv; omega
        unfold maxLen at hbc
        by_cases hlt : j < m
        · obtain ⟨left, hleft⟩ : ∃ left, m - j = left + 1 := ⟨m - j - 1, by omega⟩
          have HR2 : Hid (RoundsD opD b (left + 1) k (ms.map OpM.op)) := by have := HRO.out; rwa [hleft] at this
          have HL : Hid (m - (j + 1) = left) := by show _ = _; omega
          have hml : ms.length ≤ 2000 := by have := HML.out; omega
          have hlen : (b.drop k).length = n - k := by rw [List.length_drop, HN.out]
          have C := Lib.hid (refSome_any HRB.out (below_then HB0.out HBW.out) hlen (by omega))
          have HLEN := Lib.hid hlen
          clear hleft hlen
          go_wp2_with fail
          refine C.out.mono ?_
          rintro e w3 ⟨hb3, hc | hc⟩
          · obtain ⟨hd, rfl⟩ := hc
            have HS : Hid (opsD b = none) := by show opsD b = none; unfold opsD onlyD; rw [roundsD_fail HR2.out (by unfold opD mapD seqD; rw [hd]; rfl)]
            have HBX := Lib.hid (below_then HBW.out hb3)
            clear hd hb3 C
            go_wp2_with fail
            go_ret3
            exact ⟨HBX.out, .inl ⟨HS.out, rfl⟩⟩
          · obtain ⟨v, l, k1, sa, sc, hd, hk1, rfl, hrs, av, cv, rfl, hown⟩ := hc
            have hl7 : l.length = 7 := (sevenD_puts.2 _ _ _ hd).1.1
            obtain ⟨x0, x1, x2, x3, x4, x5, x6, rfl⟩ := seven_of hl7
            have HD := Lib.hid hd
            have HRS := Lib.hid hrs
            have HB3 := Lib.hid (below_then HBW.out hb3)
            have HLI := Lib.hid hown
            have HOW3 : Hid (OwnOps w3 w.heap.size (.slice oa ms.length oc) ms) := ⟨own_later HOW.out.1 hb3, fun m hm => own_later (HOW.out.2 m hm) hb3⟩
            have hcv : 7 ≤ cv := by obtain ⟨_, _, hv, h1, -, -, -⟩ := Rd.of_own hown; cases hv; exact h1
            have hcw : cv ≤ maxLen := by obtain ⟨_, _, hv, -, h1, -, -⟩ := Rd.of_own hown; cases hv; exact h1
            unfold maxLen at hcw
            clear hd hb3 hown hrs hl7 C
            have hl2 : ((b.drop k).drop k1).length = n - k - k1 := by rw [List.length_drop, HLEN.out]
            have HL2 := Lib.hid hl2
            have HQ3 := Lib.hid (below_then HB0.out HB3.out)
            obtain ⟨sa', sc', hsv, hs1, hs2, -, -⟩ := id HRS.out
            have hsb : n - k - k1 ≤ sc := by cases hsv; omega
            have hsm : sc ≤ maxLen := by cases hsv; exact hs2
            unfold maxLen at hsm
            clear hsv hs1 hs2
            cases hgr : getR ((b.drop k).drop k1) with
            | none =>
              have HGR := Lib.hid hgr
              have HS : Hid (opsD b = none) := by show opsD b = none; unfold opsD onlyD; rw [roundsD_fail HR2.out (by unfold opD mapD seqD; rw [HD.out]; simp only [hgr]; rfl)]
              clear hgr hl2
              go_wp2_with fail
              refine (refRowGet_no (HRS.out.later HQ3.out) HL2.out (by omega) HGR.out).mono ?_
              rintro e w4 ⟨rfl, hb4⟩
              have HBX := Lib.hid (below_then HB3.out hb4)
              clear hb4
              go_wp2_with fail
              go_ret3
              exact ⟨HBX.out, .inl ⟨HS.out, rfl⟩⟩
            | some q =>
              obtain ⟨r, k2⟩ := q
              have HGR := Lib.hid hgr
              have hk2 := (getL_takes getVal_takes _ _ _ hgr).2
              rw [hl2] at hk2
              obtain ⟨s2, c2, hsl2, hrs2⟩ := run_part_lo elB HRS.out (by rw [List.length_map, HL2.out]; omega) k2 (by omega)
              rw [Nat.mul_one, ← List.map_drop] at hrs2
              have HRS2 := Lib.hid hrs2
              have hl3 : (((b.drop k).drop k1).drop k2).length = n - k - k1 - k2 := by rw [List.length_drop, HL2.out]
              have HL3 := Lib.hid hl3
              have hsb2 : n - k - k1 - k2 ≤ c2 := by obtain ⟨_, _, hv, h1, -, -, -⟩ := id hrs2; cases hv; omega
              have hsm2 : c2 ≤ maxLen := by obtain ⟨_, _, hv, -, h1, -, -⟩ := id hrs2; cases hv; exact h1
              unfold maxLen at hsm2
              clear hgr hl2 hrs2
              cases hgv : getVal (((b.drop k).drop k1).drop k2) with
              | none =>
                have HGV := Lib.hid hgv
                have HS : Hid (opsD b = none) := by show opsD b = none; unfold opsD onlyD; rw [roundsD_fail HR2.out (by unfold opD mapD seqD; rw [HD.out]; simp only [HGR.out, hgv]; rfl)]
                clear hgv hl3
                go_wp2_with fail
                refine (refRowGet_yes (HRS.out.later HQ3.out) HL2.out (by omega) HGR.out).mono ?_
                rintro e w4 ⟨ra, rc, rfl, hrow, hb4⟩
                have HB4 := Lib.hid (below_then HB3.out hb4)
                clear hrow hb4
                go_wp2_with fail
                refine (refGetVal_no (HRS2.out.later (below_then HB0.out HB4.out)) HL3.out.symm HGV.out).mono ?_
                rintro e w5 ⟨rfl, hb5⟩
                have HBX := Lib.hid (below_then HB4.out (below_then hb5 (below_alloc w5 (.cells #[.int .i64 0, .int .i64 0, .string ⟨#[]⟩] 87))))
                clear hb5
                go_wp2_with fail
                go_ret3
                exact ⟨HBX.out, .inl ⟨HS.out, rfl⟩⟩
              | some q =>
                obtain ⟨u, k3⟩ := q
                have HGV := Lib.hid hgv
                have hk3 := (getVal_takes _ _ _ hgv).2
                rw [hl3] at hk3
                obtain ⟨ta, tc, hsl3, hrs3⟩ := run_part_lo elB HRS.out (by rw [List.length_map, HL2.out]; omega) (k2 + k3) (by omega)
                rw [Nat.mul_one, ← List.map_drop] at hrs3
                have HRT := Lib.hid hrs3
                have hsl4 : ∀ W, (Instr.sliceAt 38 (.slice sa (n - k - k1) sc) (some (.int .i64 ((k2 : Int) + (k3 : Int)))) none none).run Try.prog W = .ok (.slice ta (n - k - k1 - (k2 + k3)) tc) W := fun W => by have := hsl3 W; rwa [Int.natCast_add] at this
                have HNX := Lib.hid (roundsD_next HR2.out (show opD (b.drop k) = some (opOf ([x0, x1, x2, x3, x4, x5, x6], (r, u)), k1 + (k2 + k3)) by unfold opD mapD seqD; rw [HD.out]; simp only [HGR.out, hgv]; rfl))
                clear hgv hl3 hrs3 hsl3
                go_wp2_with fail
                refine (refRowGet_yes (HRS.out.later HQ3.out) HL2.out (by omega) HGR.out).mono ?_
                rintro e w4 ⟨ra, rc, rfl, hrow, hb4⟩
                have HB4' := Lib.hid (below_then HB3.out hb4)
                have HROW := Lib.hid (own_mono0 hrow HB3.out.size)
                have HLI4 := Lib.hid (own_later HLI.out hb4)
                have HOW4' : Hid (OwnOps w4 w.heap.size (.slice oa ms.length oc) ms) := ⟨own_later HOW3.out.1 hb4, fun m hm => own_later (HOW3.out.2 m hm) hb4⟩
                clear hrow hb4
                go_wp2_with fail
                refine (refGetVal_yes (HRS2.out.later (below_then HB0.out HB4'.out)) HL3.out.symm HGV.out).mono ?_
                rintro e w5 ⟨rfl, hb5⟩
                have HB5' := Lib.hid hb5
                clear hb5
                go_wp2_with fail
                obtain ⟨w7, hw7⟩ : ∃ w7, w5.alloc (.cells #[.int .i64 u.k, .int .i64 u.n, .string u.s] 87) = w7 := ⟨_, rfl⟩
                have hb7 : Below w4.heap.size w4 w7 := by rw [← hw7]; exact below_then HB5'.out (below_alloc _ _)
                have hv7 : Bx w7 w5.heap.size #[.int .i64 u.k, .int .i64 u.n, .string u.s] 87 := by rw [← hw7]; exact bx_new rfl
                rw [hw7]
                have HB4 := Lib.hid (below_then HB4'.out hb7)
                have HROW4 := Lib.hid (own_later HROW.out hb7)
                have HOW4 : Hid (OwnOps w7 w.heap.size (.slice oa ms.length oc) ms) := ⟨own_later HOW4'.out.1 hb7, fun m hm => own_later (HOW4'.out.2 m hm) hb7⟩
                have hrl : Rd w7 (.slice av 7 cv) 7 ([x0, x1, x2, x3, x4, x5, x6].map ic) := Rd.of_own (own_later HLI4.out hb7)
                obtain ⟨A0, A1, A2, A3, A4, A5, A6, i0, i1, i2, i3, i4, i5, i6, d0, d1, d2, d3, d4, d5, d6⟩ := seven_rd hrl
                have y0 := cell_of_box hv7 0 rfl
                have y1 := cell_of_box hv7 1 rfl
                have y2 := cell_of_box hv7 2 rfl
                clear hrl hv7 hb7 hw7
                refine wp_region_flow (by kernel_rfl) 27 [(26, ⟨fun v => ∃ g : Nat, v = .slice (some ⟨g, 0, none⟩) 1 1, fun v _ _ w' => ∃ g : Nat, v = .slice (some ⟨g, 0, none⟩) 1 1 ∧ Bx w' g #[.int .i64 x0, .int .i64 x1, .int .i64 x2, .int .i64 x3, .slice ra r.length rc, .int .i64 u.k, .int .i64 u.n, .string u.s, .int .i64 x4, .int .i64 x5, .int .i64 x6] 89⟩)] (by kernel_rfl) ?_ ?_ ?_
                · intro x hx
                  simp only [List.mem_cons, List.not_mem_nil, or_false] at hx
                  subst hx
                  exact ⟨_, 0, rfl⟩
                · intro x hx v lo hi w w' h hb
                  simp only [List.mem_cons, List.not_mem_nil, or_false] at hx
                  subst hx
                  obtain ⟨g, rfl, h1⟩ := h
                  exact ⟨g, rfl, bx_later hb h1⟩
                · intro lo hi
                  have kd0 := cell_regrown d0
                  have kd1 := cell_regrown d1
                  have kd2 := cell_regrown d2
                  have kd3 := cell_regrown d3
                  have kd4 := cell_regrown d4
                  have kd5 := cell_regrown d5
                  have kd6 := cell_regrown d6
                  have ky0 := cell_regrown y0
                  have ky1 := cell_regrown y1
                  have ky2 := cell_regrown y2
                  refine flowW_plain rfl ?_
                  go_big_quiet_step (fail)
                  refine wpQuiet_nil ?_
                  refine flowW_plain rfl ?_
                  go_big_quiet_step (fail)
                  refine wpQuiet_nil ?_
                  refine flowW_plain rfl ?_
                  go_big_quiet_step (fail)
                  refine wpQuiet_nil ?_
                  refine flowW_plain rfl ?_
                  go_big_quiet_step (fail)
                  refine wpQuiet_nil ?_
                  refine flowW_plain rfl ?_
                  go_big_quiet_step (fail)
                  refine wpQuiet_nil ?_
                  refine flowW_plain rfl ?_
                  go_big_quiet_step (fail)
                  refine wpQuiet_nil ?_
                  refine flowW_plain rfl ?_
                  go_big_quiet_step (fail)
                  refine wpQuiet_nil ?_
                  refine flowW_plain rfl ?_
                  go_big_quiet_step (fail)
                  refine wpQuiet_nil ?_
                  refine flowW_plain rfl ?_
                  go_big_quiet_step (fail)
                  refine wpQuiet_nil ?_
                  refine flowW_plain rfl ?_
                  go_big_quiet_step (fail)
                  refine wpQuiet_nil ?_
                  refine flowW_plain rfl ?_
                  go_big_quiet_step (fail)
                  refine wpQuiet_nil ?_
                  refine flowW_plain rfl ?_
                  go_big_quiet_step (fail)
                  refine wpQuiet_nil ?_
                  refine flowW_plain rfl ?_
                  go_big_quiet_step (fail)
                  refine wpQuiet_nil ?_
                  refine flowW_plain rfl ?_
                  go_big_quiet_step (fail)
                  refine wpQuiet_nil ?_
                  refine flowW_plain rfl ?_
                  go_big_quiet_step (fail)
                  refine wpQuiet_nil ?_
                  refine flowW_plain rfl ?_
                  go_big_quiet_step (fail)
                  refine wpQuiet_nil ?_
                  refine flowW_plain rfl ?_
                  go_big_quiet_step (fail)
                  refine wpQuiet_nil ?_
                  refine flowW_plain rfl ?_
                  go_big_quiet_step (fail)
                  refine wpQuiet_nil ?_
                  refine flowW_plain rfl ?_
                  go_big_quiet_step (fail)
                  refine wpQuiet_nil ?_
                  refine flowW_plain rfl ?_
                  go_big_quiet_step (fail)
                  refine wpQuiet_nil ?_
                  refine flowW_plain rfl ?_
                  go_big_quiet_step (fail)
                  refine wpQuiet_nil ?_
                  refine flowW_plain rfl ?_
                  go_big_quiet_step (fail)
                  refine wpQuiet_nil ?_
                  refine flowW_plain rfl ?_
                  go_big_quiet_step (fail)
                  refine wpQuiet_nil ?_
                  refine flowW_plain rfl ?_
                  go_big_quiet_step (fail)
                  refine wpQuiet_nil ?_
                  refine flowW_plain rfl ?_
                  go_big_quiet_step (fail)
                  refine wpQuiet_nil ?_
                  refine flowW_plain rfl ?_
                  go_big_quiet_step (fail)
                  refine wpQuiet_nil ?_
                  refine flowW_call rfl rfl ?_ ?_
                  · intro W hW hF K hK
                    clear kd0 kd1 kd2 kd3 kd4 kd5 kd6 ky0 ky1 ky2
                    go_wp2_with fail
                    exact hK _ _ ⟨_, rfl⟩ ⟨_, rfl, bx_new rfl⟩ (below_alloc _ _)
                  rintro v ⟨g26, rfl⟩ K hK
                  go_simp
                  refine hK _ ?_
                  clear hK K
                  refine flowW_end fun we hwe hF hD => ?_
                  clear kd0 kd1 kd2 kd3 kd4 kd5 kd6 ky0 ky1 ky2
                  simp only [List.drop_succ_cons, List.drop_zero]
                  obtain ⟨_, he, bg⟩ := hF 26
                  cases he
                  have hoe := own_later HOW4.out.1 hwe
                  have hsrc : Src Try.prog we 11 (.slice (some ⟨g26, 0, none⟩) 1 1) 1 (#[.int .i64 x0, .int .i64 x1, .int .i64 x2, .int .i64 x3, .slice ra r.length rc, .int .i64 u.k, .int .i64 u.n, .string u.s, .int .i64 x4, .int .i64 x5, .int .i64 x6] : Array Value).toList := Src.of_rd (rd_of_bx bg 1 (by decide)) rfl
                  have hbe := below_then HB4.out hwe
                  go_wp2_with (at_builtin; refine wpList_app elOp ⟨_, elOp.ty, fun k h => nomatch h⟩ rfl _ _ rfl rfl rfl hoe hsrc (fun q hq => List.all_eq_true.1 (show (#[.int .i64 x0, .int .i64 x1, .int .i64 x2, .int .i64 x3, .slice ra r.length rc, .int .i64 u.k, .int .i64 u.n, .string u.s, .int .i64 x4, .int .i64 x5, .int .i64 x6] : Array Value).toList.all (fun q => q.oneCell') = true from rfl) q hq) (by unfold maxLen; omega) (by omega) hbe.size ?_; intro v5 w5 hown5 hgrow5 hblk5)
                  have hgr : we.grownBy w5 (Value.slice oa ms.length oc).ownBlock := hgrow5
                  have hbw5 := hbe.grown hgr hbe.size (fun k hk => (hoe.lt k hk).1)
                  have hrows5 : ∀ m ∈ ms, w5.ownsRow w.heap.size 87 3 m.rv m.op.row.length (rowCs m.op.row) := fun m hm => own_grown (own_later (HOW4.out.2 m hm) hwe) hgr (own_ne_own (own_later (HOW4.out.2 m hm) hwe) hoe rfl)
                  have hrow5 : w5.ownsRow w.heap.size 87 3 (.slice ra r.length rc) r.length (rowCs r) := own_grown (own_later HROW4.out hwe) hgr (own_ne_own (own_later HROW4.out hwe) hoe rfl)
                  have HRW5 := Lib.hid hrows5
                  have HRO5 := Lib.hid hrow5
                  clear hrows5 hrow5
                  obtain ⟨oa5, oc5, rfl, -⟩ := Rd.of_own hown5
                  have HO5 := Lib.hid hown5
                  have HB5 := Lib.hid hbw5
                  clear hF hD hwe bg hoe hsrc hbe hown5 hgrow5 hblk5 hgr hbw5 d0 d1 d2 d3 d4 d5 d6 y0 y1 y2
                  go_wp2_with fail
                  go_roundw
                  case rel =>
                    refine ⟨j + 1, k + (k1 + (k2 + k3)), ms ++ [⟨opOf ([x0, x1, x2, x3, x4, x5, x6], (r, u)), .slice ra r.length rc⟩], oa5, oc5, ta, tc, by omega, by go_num, by rw [List.length_append]; rfl, by omega, ?_, (by show _ = _; rw [List.length_append, HML.out]; rfl), ?_, ?_, ?_, HB5.out⟩
                    · rw [show n - (k + (k1 + (k2 + k3))) = n - k - k1 - (k2 + k3) by omega]
                    · show RoundsD opD b _ _ _
                      rw [HL.out, List.map_append]
                      exact HNX.out
                    · refine ⟨?_, fun y hy => ?_⟩
                      · rw [List.length_append, List.flatMap_append]
                        simpa [OpM.cs, opOf] using HO5.out
                      · rcases List.mem_append.1 hy with hy | hy
                        · exact HRW5.out y hy
                        · rw [List.mem_singleton.1 hy]
                          exact HRO5.out
                    · show Rd _ _ _ _
                      have := HRT.out
                      rw [List.drop_drop, List.drop_drop] at this
                      rw [show n - (k + (k1 + (k2 + k3))) = n - k - k1 - (k2 + k3) by omega]
                      exact this
                  case measure => simp [intOf]; omega
        · have hjm : j = m := by omega
          have HS : Hid (opsD b = some (ms.map OpM.op, k)) := by
            show _ = _
            have h1 := HRO.out
            rw [hjm, Nat.sub_self] at h1
            unfold opsD onlyD
            rw [roundsD_end h1]
            simp only
            rw [if_pos]
            rw [decide_eq_true_eq, List.length_map]
            have := HML.out
            omega
          clear hjm
          go_wp2_with fail
          go_ret3
          exact ⟨HBW.out, .inr ⟨_, _, k, ba, bcap, HS.out, hk, rfl, HRB.out, ms, oa, oc, rfl, rfl, HOW.out⟩⟩

set_option maxRecDepth 100000 in
set_option maxHeartbeats 16000000 in
theorem refParse_any (v : Value) (b : List UInt8) (w : World) (h : Rd w v b.length (b.map bc)) (hl : b.length ≤ 1000000000) :
    Calls Try.prog 22 #[v] w (ParseP w b) := by
  obtain ⟨a, c, rfl, hnc, hcm, -, -⟩ := id h
  obtain ⟨n, hn⟩ : ∃ n, b.length = n := ⟨_, rfl⟩
  rw [hn] at h hl hnc ⊢
  unfold maxLen at hcm
  obtain ⟨w1, hw1⟩ : ∃ w1, w.alloc (.cells #[.int .i64 0, .int .i64 0, .int .i64 0, .slice none 0 0, .slice none 0 0, .slice none 0 0, .bool false, .slice none 0 0, .int .i64 0, .int .i64 0, .int .i64 0] 27) = w1 := ⟨_, rfl⟩
  have hb1 : Below w.heap.size w w1 := by rw [← hw1]; exact below_alloc _ _
  have hp1 : Bx w1 w.heap.size #[.int .i64 0, .int .i64 0, .int .i64 0, .slice none 0 0, .slice none 0 0, .slice none 0 0, .bool false, .slice none 0 0, .int .i64 0, .int .i64 0, .int .i64 0] 27 := by rw [← hw1]; exact bx_new rfl
  have HW1 := Lib.hid hw1
  have HB1 := Lib.hid hb1
  have HP1 := Lib.hid hp1
  have HN := Lib.hid hn
  have C1 := Lib.hid (refSome_any h hb1 hn hl)
  clear h hw1 hb1 hp1 hn
  go_enter Try.func22, Try.ntmps22
  go_wp2_with fail
  rw [HW1.out]
  refine C1.out.mono ?_
  rintro e w2 ⟨hb2, hc | hc⟩
  · obtain ⟨hd, rfl⟩ := hc
    have HB2 := Lib.hid (below_then HB1.out hb2)
    have HP2 := Lib.hid (bx_later hb2 HP1.out)
    have HS : Hid (parseT b = none) := parse_no1 hd
    go_wp2_with (refine wpList_store_box (T := 27) rfl _ _ rfl rfl rfl (by kernel_rfl) HP2.out rfl rfl rfl rfl ?_)
    have hbz := bx_row HP2.out #[.int .i64 0, .int .i64 0, .int .i64 0, .slice none 0 0, .slice none 0 0, .slice none 0 0, .bool false, .slice none 0 0, .int .i64 0, .int .i64 0, .int .i64 0]
    have r0 := cell_of_box hbz 0 rfl
    have r1 := cell_of_box hbz 1 rfl
    have r2 := cell_of_box hbz 2 rfl
    have r3 := cell_of_box hbz 3 rfl
    have r4 := cell_of_box hbz 4 rfl
    have r5 := cell_of_box hbz 5 rfl
    have r6 := cell_of_box hbz 6 rfl
    have r7 := cell_of_box hbz 7 rfl
    have r8 := cell_of_box hbz 8 rfl
    have r9 := cell_of_box hbz 9 rfl
    have r10 := cell_of_box hbz 10 rfl
    clear hbz
    refine bodyPost_ret (v := .tuple #[.agg #[.int .i64 0, .int .i64 0, .int .i64 0, .slice none 0 0, .slice none 0 0, .slice none 0 0, .bool false, .slice none 0 0, .int .i64 0, .int .i64 0, .int .i64 0], .int .i64 3]) (by simp [results, Try.results22, go_sem, r0, r1, r2, r3, r4, r5, r6, r7, r8, r9, r10]) rfl ⟨below_row HB2.out (Nat.le_refl _) _, .inl ⟨HS.out, rfl⟩⟩
  · obtain ⟨v1, l, k1, a1, c1, hd1, hk1, rfl, hr1, av, cv, rfl, hown1⟩ := hc
    have hl7 : l.length = 7 := (sevenD_puts.2 _ _ _ hd1).1.1
    obtain ⟨x0, x1, x2, x3, x4, x5, x6, rfl⟩ := seven_of hl7
    have HB2 := Lib.hid (below_then HB1.out hb2)
    have HP2 := Lib.hid (bx_later hb2 HP1.out)
    have hrl : Rd w2 (.slice av 7 cv) 7 ([x0, x1, x2, x3, x4, x5, x6].map ic) := Rd.of_own hown1
    obtain ⟨A0, A1, A2, A3, A4, A5, A6, i0, i1, i2, i3, i4, i5, i6, d0, d1, d2, d3, d4, d5, d6⟩ := seven_rd hrl
    clear hrl
    have HOL2 := Lib.hid hown1
    have HR1 := Lib.hid hr1
    have hcv : 7 ≤ cv := by obtain ⟨_, _, hv, h1, -, -, -⟩ := Rd.of_own hown1; cases hv; exact h1
    have hcw : cv ≤ maxLen := by obtain ⟨_, _, hv, -, h1, -, -⟩ := Rd.of_own hown1; cases hv; exact h1
    have hc1m : c1 ≤ maxLen := by obtain ⟨_, _, hv, -, h1, -, -⟩ := id hr1; cases hv; exact h1
    unfold maxLen at hcw hc1m
    have HS1 := Lib.hid hd1
    have hl1 : (b.drop k1).length = n - k1 := by rw [List.length_drop, HN.out]
    have HL1 := Lib.hid hl1
    clear hd1 hb2 hown1 hr1 hl7 C1 hl1
    cases hi : inQ3 x3 0 1
    · have HI := Lib.hid hi
      have hin : ¬ (0 ≤ x3 ∧ x3 ≤ 1) := fun hh => by unfold inQ3 at hi; rw [decide_eq_true hh.1, decide_eq_true hh.2] at hi; cases hi
      have HIN := Lib.hid hin
      clear hi hin
      go_wp2_with fail
      refine (refIn_b false HI.out).mono ?_
      rintro e w9 ⟨rfl, rfl⟩
      have HS : Hid (parseT b = none) := parse_no2 HS1.out HIN.out
      go_wp2_with (refine wpList_store_box (T := 27) rfl _ _ rfl rfl rfl (by kernel_rfl) HP2.out rfl rfl rfl rfl ?_)
      have hbz := bx_row HP2.out #[.int .i64 0, .int .i64 0, .int .i64 0, .slice none 0 0, .slice none 0 0, .slice none 0 0, .bool false, .slice none 0 0, .int .i64 0, .int .i64 0, .int .i64 0]
      have r0 := cell_of_box hbz 0 rfl
      have r1 := cell_of_box hbz 1 rfl
      have r2 := cell_of_box hbz 2 rfl
      have r3 := cell_of_box hbz 3 rfl
      have r4 := cell_of_box hbz 4 rfl
      have r5 := cell_of_box hbz 5 rfl
      have r6 := cell_of_box hbz 6 rfl
      have r7 := cell_of_box hbz 7 rfl
      have r8 := cell_of_box hbz 8 rfl
      have r9 := cell_of_box hbz 9 rfl
      have r10 := cell_of_box hbz 10 rfl
      clear hbz
      refine bodyPost_ret (v := .tuple #[.agg #[.int .i64 0, .int .i64 0, .int .i64 0, .slice none 0 0, .slice none 0 0, .slice none 0 0, .bool false, .slice none 0 0, .int .i64 0, .int .i64 0, .int .i64 0], .int .i64 3]) (by simp [results, Try.results22, go_sem, r0, r1, r2, r3, r4, r5, r6, r7, r8, r9, r10]) rfl ⟨below_row HB2.out (Nat.le_refl _) _, .inl ⟨HS.out, rfl⟩⟩
    · have HI := Lib.hid hi
      have hin : 0 ≤ x3 ∧ x3 ≤ 1 := by unfold inQ3 at hi; rw [Bool.and_eq_true, decide_eq_true_eq, decide_eq_true_eq] at hi; exact hi
      have HD1 := Lib.hid (headD_yes HS1.out hin)
      obtain ⟨fb, hfb⟩ : ∃ fb, (x3 == 1) = fb := ⟨_, rfl⟩
      have HFB := Lib.hid hfb
      clear hi hin
      go_wp2_with fail
      refine (refIn_b true HI.out).mono ?_
      rintro e w9 ⟨rfl, rfl⟩
      clear d0 i0 d1 i1 d2 i2 d3 i3 d4 i4 d5 i5 d6 i6
      cases hg : getNums (b.drop k1) with
      | none =>
        have HG := Lib.hid hg
        clear hg
        go_wp2_with fail
        refine (refNumsGet_no (HR1.out.later HB2.out) HL1.out (by omega) HG.out).mono ?_
        rintro e w3 ⟨rfl, hb3⟩
        have HB3 := Lib.hid (below_then HB2.out hb3)
        have HP3 := Lib.hid (bx_later hb3 HP2.out)
        clear hb3
        have HS : Hid (parseT b = none) := parse_no3 HD1.out (depsD_no HG.out)
        go_wp2_with (refine wpList_store_box (T := 27) rfl _ _ rfl rfl rfl (by kernel_rfl) HP3.out rfl rfl rfl rfl ?_)
        have hbz := bx_row HP3.out #[.int .i64 0, .int .i64 0, .int .i64 0, .slice none 0 0, .slice none 0 0, .slice none 0 0, .bool false, .slice none 0 0, .int .i64 0, .int .i64 0, .int .i64 0]
        have r0 := cell_of_box hbz 0 rfl
        have r1 := cell_of_box hbz 1 rfl
        have r2 := cell_of_box hbz 2 rfl
        have r3 := cell_of_box hbz 3 rfl
        have r4 := cell_of_box hbz 4 rfl
        have r5 := cell_of_box hbz 5 rfl
        have r6 := cell_of_box hbz 6 rfl
        have r7 := cell_of_box hbz 7 rfl
        have r8 := cell_of_box hbz 8 rfl
        have r9 := cell_of_box hbz 9 rfl
        have r10 := cell_of_box hbz 10 rfl
        clear hbz
        refine bodyPost_ret (v := .tuple #[.agg #[.int .i64 0, .int .i64 0, .int .i64 0, .slice none 0 0, .slice none 0 0, .slice none 0 0, .bool false, .slice none 0 0, .int .i64 0, .int .i64 0, .int .i64 0], .int .i64 3]) (by simp [results, Try.results22, go_sem, r0, r1, r2, r3, r4, r5, r6, r7, r8, r9, r10]) rfl ⟨below_row HB3.out (Nat.le_refl _) _, .inl ⟨HS.out, rfl⟩⟩
      | some p =>
        obtain ⟨ds, k2⟩ := p
        have HG := Lib.hid hg
        have hk2 := (getNums_takes _ _ _ hg).2
        rw [HL1.out] at hk2
        clear hg
        go_wp2_with fail
        refine (refNumsGet_yes (HR1.out.later HB2.out) HL1.out (by omega) HG.out).mono ?_
        rintro e w3 ⟨av2, cv2, rfl, hown2, hb3⟩
        have HB3 := Lib.hid (below_then HB2.out hb3)
        have HP3 := Lib.hid (bx_later hb3 HP2.out)
        have HOL3 := Lib.hid (own_later HOL2.out hb3)
        obtain ⟨nd, hnd⟩ : ∃ nd, ds.length = nd := ⟨_, rfl⟩
        have hrd2 : Rd w3 (.slice av2 ds.length cv2) ds.length (ds.map ic) := Rd.of_own hown2
        rw [hnd] at hown2 hrd2 ⊢
        have HO3 := Lib.hid hown2
        have HND := Lib.hid hnd
        have HRD2 := Lib.hid hrd2
        have hg2 : w.heap.size < w2.heap.size := (Array.getElem?_eq_some_iff.1 HP2.out).1
        have hcd : nd ≤ cv2 := by obtain ⟨_, _, hv, h1, -, -, -⟩ := id hrd2; cases hv; omega
        have hcx : cv2 ≤ maxLen := by obtain ⟨_, _, hv, -, h1, -, -⟩ := id hrd2; cases hv; exact h1
        unfold maxLen at hcx
        clear hown2 hb3 hnd hrd2
        rcases Nat.eq_zero_or_pos nd with h0 | h0
        · have HD2 : Hid (depsD (b.drop k1) = some (ds, k2)) := depsD_yes HG.out (by rw [List.eq_nil_of_length_eq_zero (HND.out.trans h0)]; simp)
          have e0 : decide (0 < (nd : Int)) = false := decide_eq_false (by omega)
          have e1 : decide (0 < nd) = false := decide_eq_false (by omega)
          clear h0
          have hcs2 : n - k1 ≤ c1 := by obtain ⟨_, _, hv, h1, -, -, -⟩ := id HR1.out; cases hv; omega
          obtain ⟨s2, c2, hsl2, hrs2⟩ := run_part_lo elB HR1.out (by rw [List.length_map, HL1.out]; omega) k2 (by omega)
          rw [Nat.mul_one, ← List.map_drop] at hrs2
          have hl2 : ((b.drop k1).drop k2).length = n - k1 - k2 := by rw [List.length_drop, HL1.out]
          have HL2 := Lib.hid hl2
          have C3 := Lib.hid (refGetOps_any hrs2 HB3.out hl2 (by omega))
          clear hrs2 hl2
          go_wp2_with fail
          refine C3.out.mono ?_
          rintro e w4 ⟨hb4, hc | hc⟩
          · obtain ⟨hd, rfl⟩ := hc
            have HB4 := Lib.hid (below_then HB3.out hb4)
            have HP4 := Lib.hid (bx_later hb4 HP3.out)
            have HS : Hid (parseT b = none) := parse_no4 HD1.out HD2.out hd
            go_wp2_with (refine wpList_store_box (T := 27) rfl _ _ rfl rfl rfl (by kernel_rfl) HP4.out rfl rfl rfl rfl ?_)
            have hbz := bx_row HP4.out #[.int .i64 0, .int .i64 0, .int .i64 0, .slice none 0 0, .slice none 0 0, .slice none 0 0, .bool false, .slice none 0 0, .int .i64 0, .int .i64 0, .int .i64 0]
            have r0 := cell_of_box hbz 0 rfl
            have r1 := cell_of_box hbz 1 rfl
            have r2 := cell_of_box hbz 2 rfl
            have r3 := cell_of_box hbz 3 rfl
            have r4 := cell_of_box hbz 4 rfl
            have r5 := cell_of_box hbz 5 rfl
            have r6 := cell_of_box hbz 6 rfl
            have r7 := cell_of_box hbz 7 rfl
            have r8 := cell_of_box hbz 8 rfl
            have r9 := cell_of_box hbz 9 rfl
            have r10 := cell_of_box hbz 10 rfl
            clear hbz
            refine bodyPost_ret (v := .tuple #[.agg #[.int .i64 0, .int .i64 0, .int .i64 0, .slice none 0 0, .slice none 0 0, .slice none 0 0, .bool false, .slice none 0 0, .int .i64 0, .int .i64 0, .int .i64 0], .int .i64 3]) (by simp [results, Try.results22, go_sem, r0, r1, r2, r3, r4, r5, r6, r7, r8, r9, r10]) rfl ⟨below_row HB4.out (Nat.le_refl _) _, .inl ⟨HS.out, rfl⟩⟩
          · obtain ⟨v4, os, k3, b4, e4, hd4, hk3, rfl, hr4, ms, a4, c4, hos, rfl, ho4⟩ := hc
            have HB4 := Lib.hid (below_then HB3.out hb4)
            have HP4 := Lib.hid (bx_later hb4 HP3.out)
            have HD4 := Lib.hid hd4
            have HOS := Lib.hid hos
            have HOO4 := Lib.hid ho4
            have hl4 : (((b.drop k1).drop k2).drop k3).length = n - k1 - k2 - k3 := by rw [List.length_drop, HL2.out]
            have HL4 := Lib.hid hl4
            have C4 := Lib.hid (refGetOps_any hr4 HB4.out hl4 (by omega))
            have HOL4 := Lib.hid (own_later HOL3.out hb4)
            have HO4 := Lib.hid (own_later HO3.out hb4)
            clear hd4 hos ho4 hr4 hb4 hl4 C3
            go_wp2_with fail
            refine C4.out.mono ?_
            rintro e w5 ⟨hb5, hc | hc⟩
            · obtain ⟨hd, rfl⟩ := hc
              have HB5 := Lib.hid (below_then HB4.out hb5)
              have HP5 := Lib.hid (bx_later hb5 HP4.out)
              have HS : Hid (parseT b = none) := parse_no5 HD1.out HD2.out HD4.out hd
              go_wp2_with (refine wpList_store_box (T := 27) rfl _ _ rfl rfl rfl (by kernel_rfl) HP5.out rfl rfl rfl rfl ?_)
              have hbz := bx_row HP5.out #[.int .i64 0, .int .i64 0, .int .i64 0, .slice none 0 0, .slice none 0 0, .slice none 0 0, .bool false, .slice none 0 0, .int .i64 0, .int .i64 0, .int .i64 0]
              have r0 := cell_of_box hbz 0 rfl
              have r1 := cell_of_box hbz 1 rfl
              have r2 := cell_of_box hbz 2 rfl
              have r3 := cell_of_box hbz 3 rfl
              have r4 := cell_of_box hbz 4 rfl
              have r5 := cell_of_box hbz 5 rfl
              have r6 := cell_of_box hbz 6 rfl
              have r7 := cell_of_box hbz 7 rfl
              have r8 := cell_of_box hbz 8 rfl
              have r9 := cell_of_box hbz 9 rfl
              have r10 := cell_of_box hbz 10 rfl
              clear hbz
              refine bodyPost_ret (v := .tuple #[.agg #[.int .i64 0, .int .i64 0, .int .i64 0, .slice none 0 0, .slice none 0 0, .slice none 0 0, .bool false, .slice none 0 0, .int .i64 0, .int .i64 0, .int .i64 0], .int .i64 3]) (by simp [results, Try.results22, go_sem, r0, r1, r2, r3, r4, r5, r6, r7, r8, r9, r10]) rfl ⟨below_row HB5.out (Nat.le_refl _) _, .inl ⟨HS.out, rfl⟩⟩
            · obtain ⟨v5, es, k4, b5, e5, hd5, hk4, rfl, hr5, mt, a5, c5, hes, rfl, ho5⟩ := hc
              have HB5 := Lib.hid (below_then HB4.out hb5)
              have HP5 := Lib.hid (bx_later hb5 HP4.out)
              have HD5 := Lib.hid hd5
              have HES := Lib.hid hes
              have HOE5 := Lib.hid ho5
              have HOO5 : Hid (OwnOps w5 w3.heap.size (.slice a4 ms.length c4) ms) := ⟨own_later HOO4.out.1 hb5, fun m hm => own_later (HOO4.out.2 m hm) hb5⟩
              have hl5 : ((((b.drop k1).drop k2).drop k3).drop k4).length = n - k1 - k2 - k3 - k4 := by rw [List.length_drop, HL4.out]
              have HL5 := Lib.hid hl5
              have C5 := Lib.hid (refGetHands_any hr5 HB5.out hl5 (by omega))
              have HOL5 := Lib.hid (own_later HOL4.out hb5)
              have HO5 := Lib.hid (own_later HO4.out hb5)
              clear hd5 hes ho5 hr5 hb5 hl5 C4
              go_wp2_with fail
              refine C5.out.mono ?_
              rintro e w6 ⟨hb6, hc | hc⟩
              · obtain ⟨hd, rfl⟩ := hc
                have HB6 := Lib.hid (below_then HB5.out hb6)
                have HP6 := Lib.hid (bx_later hb6 HP5.out)
                have HS : Hid (parseT b = none) := parse_no6 HD1.out HD2.out HD4.out HD5.out hd
                go_wp2_with (refine wpList_store_box (T := 27) rfl _ _ rfl rfl rfl (by kernel_rfl) HP6.out rfl rfl rfl rfl ?_)
                have hbz := bx_row HP6.out #[.int .i64 0, .int .i64 0, .int .i64 0, .slice none 0 0, .slice none 0 0, .slice none 0 0, .bool false, .slice none 0 0, .int .i64 0, .int .i64 0, .int .i64 0]
                have r0 := cell_of_box hbz 0 rfl
                have r1 := cell_of_box hbz 1 rfl
                have r2 := cell_of_box hbz 2 rfl
                have r3 := cell_of_box hbz 3 rfl
                have r4 := cell_of_box hbz 4 rfl
                have r5 := cell_of_box hbz 5 rfl
                have r6 := cell_of_box hbz 6 rfl
                have r7 := cell_of_box hbz 7 rfl
                have r8 := cell_of_box hbz 8 rfl
                have r9 := cell_of_box hbz 9 rfl
                have r10 := cell_of_box hbz 10 rfl
                clear hbz
                refine bodyPost_ret (v := .tuple #[.agg #[.int .i64 0, .int .i64 0, .int .i64 0, .slice none 0 0, .slice none 0 0, .slice none 0 0, .bool false, .slice none 0 0, .int .i64 0, .int .i64 0, .int .i64 0], .int .i64 3]) (by simp [results, Try.results22, go_sem, r0, r1, r2, r3, r4, r5, r6, r7, r8, r9, r10]) rfl ⟨below_row HB6.out (Nat.le_refl _) _, .inl ⟨HS.out, rfl⟩⟩
              · obtain ⟨v6, hs', k5, b6, e6, hd6, hk5, rfl, hr6, hs, a6, c6, rfl, rfl, ho6⟩ := hc
                have HB6 := Lib.hid (below_then HB5.out hb6)
                have HP6 := Lib.hid (bx_later hb6 HP5.out)
                have HD6 := Lib.hid hd6
                have HOH6 := Lib.hid ho6
                have HOO6 : Hid (OwnOps w6 w3.heap.size (.slice a4 ms.length c4) ms) := ⟨own_later HOO5.out.1 hb6, fun m hm => own_later (HOO5.out.2 m hm) hb6⟩
                have HOE6 : Hid (OwnOps w6 w4.heap.size (.slice a5 mt.length c5) mt) := ⟨own_later HOE5.out.1 hb6, fun m hm => own_later (HOE5.out.2 m hm) hb6⟩
                have HO6 := Lib.hid (own_later HO5.out hb6)
                have hrl : Rd w6 (.slice av 7 cv) 7 ([x0, x1, x2, x3, x4, x5, x6].map ic) := Rd.of_own (own_later HOL5.out hb6)
                have HALL := Lib.hid (parse_all HD1.out HD2.out HD4.out HD5.out HD6.out)
                clear hd6 ho6 hr6 hb6 C5
                obtain ⟨nz, hnz⟩ : ∃ nz, n - k1 - k2 - k3 - k4 - k5 = nz := ⟨_, rfl⟩
                rw [hnz]
                have HNZ := Lib.hid hnz
                clear hnz
                have hg3 : w.heap.size < w3.heap.size := (Array.getElem?_eq_some_iff.1 HP3.out).1
                have hg4 : w.heap.size < w4.heap.size := (Array.getElem?_eq_some_iff.1 HP4.out).1
                have hg5 : w.heap.size < w5.heap.size := (Array.getElem?_eq_some_iff.1 HP5.out).1
                by_cases h0 : nz = 0
                · have g1 : decide (0 < (nz : Int)) = false := decide_eq_false (by omega)
                  have g2 : decide (0 < nz) = false := decide_eq_false (by omega)
                  have HS : Hid (parseT b = some (txOf ([x0, x1, x2, x3, x4, x5, x6], (ds, (os, (es, hs)))))) := by show _ = _; rw [HALL.out, if_pos (by have := HNZ.out; have := HN.out; omega)]
                  clear h0
                  obtain ⟨A0, A1, A2, A3, A4, A5, A6, i0, i1, i2, i3, i4, i5, i6, d0, d1, d2, d3, d4, d5, d6⟩ := seven_rd hrl
                  clear hrl
                  go_wp2_with fail
                  refine wp_region_flow (by kernel_rfl) 27 [] (by kernel_rfl) ?_ ?_ ?_
                  · intro x hx; cases hx
                  · intro x hx; cases hx
                  · intro lo hi
                    have kd0 := cell_regrown d0
                    have kd1 := cell_regrown d1
                    have kd2 := cell_regrown d2
                    have kd3 := cell_regrown d3
                    have kd4 := cell_regrown d4
                    have kd5 := cell_regrown d5
                    have kd6 := cell_regrown d6
                    refine flowW_plain rfl ?_
                    go_big_quiet_step (fail)
                    refine wpQuiet_nil ?_
                    refine flowW_plain rfl ?_
                    go_big_quiet_step (fail)
                    refine wpQuiet_nil ?_
                    refine flowW_plain rfl ?_
                    go_big_quiet_step (fail)
                    refine wpQuiet_nil ?_
                    refine flowW_plain rfl ?_
                    go_big_quiet_step (fail)
                    refine wpQuiet_nil ?_
                    refine flowW_plain rfl ?_
                    go_big_quiet_step (fail)
                    refine wpQuiet_nil ?_
                    refine flowW_plain rfl ?_
                    go_big_quiet_step (fail)
                    refine wpQuiet_nil ?_
                    refine flowW_plain rfl ?_
                    go_big_quiet_step (fail)
                    refine wpQuiet_nil ?_
                    refine flowW_plain rfl ?_
                    go_big_quiet_step (fail)
                    refine wpQuiet_nil ?_
                    refine flowW_plain rfl ?_
                    go_big_quiet_step (fail)
                    refine wpQuiet_nil ?_
                    refine flowW_plain rfl ?_
                    go_big_quiet_step (fail)
                    refine wpQuiet_nil ?_
                    refine flowW_plain rfl ?_
                    go_big_quiet_step (fail)
                    refine wpQuiet_nil ?_
                    refine flowW_plain rfl ?_
                    go_big_quiet_step (fail)
                    refine wpQuiet_nil ?_
                    refine flowW_plain rfl ?_
                    go_big_quiet_step (fail)
                    refine wpQuiet_nil ?_
                    refine flowW_plain rfl ?_
                    go_big_quiet_step (fail)
                    refine wpQuiet_nil ?_
                    refine flowW_plain rfl ?_
                    go_big_quiet_step (fail)
                    refine wpQuiet_nil ?_
                    refine flowW_plain rfl ?_
                    go_big_quiet_step (fail)
                    refine wpQuiet_nil ?_
                    refine flowW_plain rfl ?_
                    go_big_quiet_step (fail)
                    refine wpQuiet_nil ?_
                    refine flowW_plain rfl ?_
                    go_big_quiet_step (fail)
                    refine wpQuiet_nil ?_
                    refine flowW_plain rfl ?_
                    go_big_quiet_step (fail)
                    refine wpQuiet_nil ?_
                    refine flowW_plain rfl ?_
                    go_big_quiet_step (fail)
                    refine wpQuiet_nil ?_
                    refine flowW_plain rfl ?_
                    go_big_quiet_step (fail)
                    refine wpQuiet_nil ?_
                    refine flowW_plain rfl ?_
                    go_big_quiet_step (fail)
                    refine wpQuiet_nil ?_
                    refine flowW_plain rfl ?_
                    go_big_quiet_step (fail)
                    refine wpQuiet_nil ?_
                    refine flowW_plain rfl ?_
                    go_big_quiet_step (fail)
                    refine wpQuiet_nil ?_
                    refine flowW_plain rfl ?_
                    go_big_quiet_step (fail)
                    refine wpQuiet_nil ?_
                    refine flowW_plain rfl ?_
                    go_big_quiet_step (fail)
                    refine wpQuiet_nil ?_
                    refine flowW_plain rfl ?_
                    go_big_quiet_step (fail)
                    refine wpQuiet_nil ?_
                    refine flowW_end fun wz hwz hF hD => ?_
                    clear kd0 kd1 kd2 kd3 kd4 kd5 kd6
                    simp only [List.drop_succ_cons, List.drop_zero]
                    have hpz := bx_later hwz HP6.out
                    have HPZ := Lib.hid hpz
                    have HBZ := Lib.hid (below_then HB6.out hwz)
                    have HWZ := Lib.hid hwz
                    clear hF hD hwz hpz d0 i0 d1 i1 d2 i2 d3 i3 d4 i4 d5 i5 d6 i6
                    go_wp2_with (refine wpList_store_box (T := 27) rfl _ _ rfl rfl rfl (by kernel_rfl) HPZ.out rfl rfl rfl rfl ?_)
                    have hbz := bx_row HPZ.out #[.int .i64 x0, .int .i64 x1, .int .i64 x2, .slice av2 nd cv2, .slice a4 ms.length c4, .slice a5 mt.length c5, .bool fb, .slice a6 hs.length c6, .int .i64 x4, .int .i64 x5, .int .i64 x6]
                    have r0 := cell_of_box hbz 0 rfl
                    have r1 := cell_of_box hbz 1 rfl
                    have r2 := cell_of_box hbz 2 rfl
                    have r3 := cell_of_box hbz 3 rfl
                    have r4 := cell_of_box hbz 4 rfl
                    have r5 := cell_of_box hbz 5 rfl
                    have r6 := cell_of_box hbz 6 rfl
                    have r7 := cell_of_box hbz 7 rfl
                    have r8 := cell_of_box hbz 8 rfl
                    have r9 := cell_of_box hbz 9 rfl
                    have r10 := cell_of_box hbz 10 rfl
                    clear hbz
                    have hS : parseT b = some (TxM.tx ⟨x0, x1, x2, ds, ms, mt, fb, hs, x4, x5, x6, .slice av2 nd cv2, .slice a4 ms.length c4, .slice a5 mt.length c5, .slice a6 hs.length c6⟩) := by rw [HS.out, ← HOS.out, ← HES.out, ← HFB.out]; rfl
                    refine bodyPost_ret (v := .tuple #[.agg #[.int .i64 x0, .int .i64 x1, .int .i64 x2, .slice av2 nd cv2, .slice a4 ms.length c4, .slice a5 mt.length c5, .bool fb, .slice a6 hs.length c6, .int .i64 x4, .int .i64 x5, .int .i64 x6], .int .i64 0]) (by simp [results, Try.results22, go_sem, r0, r1, r2, r3, r4, r5, r6, r7, r8, r9, r10]) rfl ⟨below_row HBZ.out (Nat.le_refl _) _, .inr ⟨_, hS, rfl, ?_⟩⟩
                    have own9 : ∀ {e' s' n' : Nat} {v' : Value} {xs' : List Value} {B' : Nat}, w6.ownsRow B' e' s' v' n' xs' → w.heap.size < B' → (wz.setRow w.heap.size #[.int .i64 x0, .int .i64 x1, .int .i64 x2, .slice av2 nd cv2, .slice a4 ms.length c4, .slice a5 mt.length c5, .bool fb, .slice a6 hs.length c6, .int .i64 x4, .int .i64 x5, .int .i64 x6]).ownsRow B' e' s' v' n' xs' := fun ho hB => own_but (own_later ho HWZ.out) (but_row wz w.heap.size _) (fun q hq e => own_g (g := w.heap.size) (own_later ho HWZ.out) hB (by rw [hq, e]))
                    refine ⟨?_, ⟨Rd.of_own (own9 HOO6.out.1 hg3), fun m hm => Rd.of_own (own9 (HOO6.out.2 m hm) hg3)⟩, ⟨Rd.of_own (own9 HOE6.out.1 hg4), fun m hm => Rd.of_own (own9 (HOE6.out.2 m hm) hg4)⟩, Rd.of_own (own9 HOH6.out hg5)⟩
                    show Rd _ (.slice av2 nd cv2) ds.length (ds.map ic)
                    rw [HND.out]
                    exact Rd.of_own (own9 HO6.out hg2)
                · have g1 : decide (0 < (nz : Int)) = true := decide_eq_true (by omega)
                  have g2 : decide (0 < nz) = true := decide_eq_true (by omega)
                  have HN0 := Lib.hid h0
                  clear h0 hrl
                  have HS : Hid (parseT b = none) := by show parseT b = none; rw [HALL.out, if_neg (by have := HNZ.out; have := HN.out; have := HN0.out; omega)]
                  go_wp2_with (refine wpList_store_box (T := 27) rfl _ _ rfl rfl rfl (by kernel_rfl) HP6.out rfl rfl rfl rfl ?_)
                  have hbz := bx_row HP6.out #[.int .i64 0, .int .i64 0, .int .i64 0, .slice none 0 0, .slice none 0 0, .slice none 0 0, .bool false, .slice none 0 0, .int .i64 0, .int .i64 0, .int .i64 0]
                  have r0 := cell_of_box hbz 0 rfl
                  have r1 := cell_of_box hbz 1 rfl
                  have r2 := cell_of_box hbz 2 rfl
                  have r3 := cell_of_box hbz 3 rfl
                  have r4 := cell_of_box hbz 4 rfl
                  have r5 := cell_of_box hbz 5 rfl
                  have r6 := cell_of_box hbz 6 rfl
                  have r7 := cell_of_box hbz 7 rfl
                  have r8 := cell_of_box hbz 8 rfl
                  have r9 := cell_of_box hbz 9 rfl
                  have r10 := cell_of_box hbz 10 rfl
                  clear hbz
                  refine bodyPost_ret (v := .tuple #[.agg #[.int .i64 0, .int .i64 0, .int .i64 0, .slice none 0 0, .slice none 0 0, .slice none 0 0, .bool false, .slice none 0 0, .int .i64 0, .int .i64 0, .int .i64 0], .int .i64 3]) (by simp [results, Try.results22, go_sem, r0, r1, r2, r3, r4, r5, r6, r7, r8, r9, r10]) rfl ⟨below_row HB6.out (Nat.le_refl _) _, .inl ⟨HS.out, rfl⟩⟩
        · obtain ⟨m, hm⟩ : ∃ m, nd = m + 1 := ⟨nd - 1, by omega⟩
          have hml : m < ds.length := by have := HND.out; omega
          obtain ⟨y, hy⟩ : ∃ y, ds[m] = y := ⟨_, rfl⟩
          obtain ⟨A, x1', c0, _⟩ := rd_one elI ic HRD2.out HND.out.symm m hml
          rw [hy] at c0
          have e0 : decide (0 < (nd : Int)) = true := decide_eq_true (by omega)
          have e1 : decide (0 < nd) = true := decide_eq_true (by omega)
          have e2 : (nd : Int) - 1 = (m : Int) := by omega
          have hnd1 : 1 ≤ nd := by omega
          have hgl : ds.getLast? = some y := by rw [List.getLast?_eq_getElem?, HND.out, hm, Nat.add_sub_cancel, List.getElem?_eq_getElem hml, hy]
          have HGL := Lib.hid hgl
          clear hy hgl hml hm h0
          by_cases hy0 : y = 0
          · have e3 : (y == 0) = true := by simp [hy0]
            have HL0 : Hid (ds.getLast? = some 0) := by rw [← hy0]; exact HGL.out
            have HS : Hid (parseT b = none) := parse_no3 HD1.out (depsD_last HG.out HL0.out)
            go_wp2_with (refine wpList_store_box (T := 27) rfl _ _ rfl rfl rfl (by kernel_rfl) HP3.out rfl rfl rfl rfl ?_)
            have hbz := bx_row HP3.out #[.int .i64 0, .int .i64 0, .int .i64 0, .slice none 0 0, .slice none 0 0, .slice none 0 0, .bool false, .slice none 0 0, .int .i64 0, .int .i64 0, .int .i64 0]
            have r0 := cell_of_box hbz 0 rfl
            have r1 := cell_of_box hbz 1 rfl
            have r2 := cell_of_box hbz 2 rfl
            have r3 := cell_of_box hbz 3 rfl
            have r4 := cell_of_box hbz 4 rfl
            have r5 := cell_of_box hbz 5 rfl
            have r6 := cell_of_box hbz 6 rfl
            have r7 := cell_of_box hbz 7 rfl
            have r8 := cell_of_box hbz 8 rfl
            have r9 := cell_of_box hbz 9 rfl
            have r10 := cell_of_box hbz 10 rfl
            clear hbz
            refine bodyPost_ret (v := .tuple #[.agg #[.int .i64 0, .int .i64 0, .int .i64 0, .slice none 0 0, .slice none 0 0, .slice none 0 0, .bool false, .slice none 0 0, .int .i64 0, .int .i64 0, .int .i64 0], .int .i64 3]) (by simp [results, Try.results22, go_sem, r0, r1, r2, r3, r4, r5, r6, r7, r8, r9, r10]) rfl ⟨below_row HB3.out (Nat.le_refl _) _, .inl ⟨HS.out, rfl⟩⟩
          · have e3 : (y == 0) = false := by simp [hy0]
            have HD2 : Hid (depsD (b.drop k1) = some (ds, k2)) := depsD_yes HG.out (by rw [HGL.out]; intro e; cases e; exact hy0 rfl)
            go_upto_region 7 with fail
            clear c0 x1' e2 e3 hy0
            have hcs2 : n - k1 ≤ c1 := by obtain ⟨_, _, hv, h1, -, -, -⟩ := id HR1.out; cases hv; omega
            obtain ⟨s2, c2, hsl2, hrs2⟩ := run_part_lo elB HR1.out (by rw [List.length_map, HL1.out]; omega) k2 (by omega)
            rw [Nat.mul_one, ← List.map_drop] at hrs2
            have hl2 : ((b.drop k1).drop k2).length = n - k1 - k2 := by rw [List.length_drop, HL1.out]
            have HL2 := Lib.hid hl2
            have C3 := Lib.hid (refGetOps_any hrs2 HB3.out hl2 (by omega))
            clear hrs2 hl2
            go_wp2_with fail
            refine C3.out.mono ?_
            rintro e w4 ⟨hb4, hc | hc⟩
            · obtain ⟨hd, rfl⟩ := hc
              have HB4 := Lib.hid (below_then HB3.out hb4)
              have HP4 := Lib.hid (bx_later hb4 HP3.out)
              have HS : Hid (parseT b = none) := parse_no4 HD1.out HD2.out hd
              go_wp2_with (refine wpList_store_box (T := 27) rfl _ _ rfl rfl rfl (by kernel_rfl) HP4.out rfl rfl rfl rfl ?_)
              have hbz := bx_row HP4.out #[.int .i64 0, .int .i64 0, .int .i64 0, .slice none 0 0, .slice none 0 0, .slice none 0 0, .bool false, .slice none 0 0, .int .i64 0, .int .i64 0, .int .i64 0]
              have r0 := cell_of_box hbz 0 rfl
              have r1 := cell_of_box hbz 1 rfl
              have r2 := cell_of_box hbz 2 rfl
              have r3 := cell_of_box hbz 3 rfl
              have r4 := cell_of_box hbz 4 rfl
              have r5 := cell_of_box hbz 5 rfl
              have r6 := cell_of_box hbz 6 rfl
              have r7 := cell_of_box hbz 7 rfl
              have r8 := cell_of_box hbz 8 rfl
              have r9 := cell_of_box hbz 9 rfl
              have r10 := cell_of_box hbz 10 rfl
              clear hbz
              refine bodyPost_ret (v := .tuple #[.agg #[.int .i64 0, .int .i64 0, .int .i64 0, .slice none 0 0, .slice none 0 0, .slice none 0 0, .bool false, .slice none 0 0, .int .i64 0, .int .i64 0, .int .i64 0], .int .i64 3]) (by simp [results, Try.results22, go_sem, r0, r1, r2, r3, r4, r5, r6, r7, r8, r9, r10]) rfl ⟨below_row HB4.out (Nat.le_refl _) _, .inl ⟨HS.out, rfl⟩⟩
            · obtain ⟨v4, os, k3, b4, e4, hd4, hk3, rfl, hr4, ms, a4, c4, hos, rfl, ho4⟩ := hc
              have HB4 := Lib.hid (below_then HB3.out hb4)
              have HP4 := Lib.hid (bx_later hb4 HP3.out)
              have HD4 := Lib.hid hd4
              have HOS := Lib.hid hos
              have HOO4 := Lib.hid ho4
              have hl4 : (((b.drop k1).drop k2).drop k3).length = n - k1 - k2 - k3 := by rw [List.length_drop, HL2.out]
              have HL4 := Lib.hid hl4
              have C4 := Lib.hid (refGetOps_any hr4 HB4.out hl4 (by omega))
              have HOL4 := Lib.hid (own_later HOL3.out hb4)
              have HO4 := Lib.hid (own_later HO3.out hb4)
              clear hd4 hos ho4 hr4 hb4 hl4 C3
              go_wp2_with fail
              refine C4.out.mono ?_
              rintro e w5 ⟨hb5, hc | hc⟩
              · obtain ⟨hd, rfl⟩ := hc
                have HB5 := Lib.hid (below_then HB4.out hb5)
                have HP5 := Lib.hid (bx_later hb5 HP4.out)
                have HS : Hid (parseT b = none) := parse_no5 HD1.out HD2.out HD4.out hd
                go_wp2_with (refine wpList_store_box (T := 27) rfl _ _ rfl rfl rfl (by kernel_rfl) HP5.out rfl rfl rfl rfl ?_)
                have hbz := bx_row HP5.out #[.int .i64 0, .int .i64 0, .int .i64 0, .slice none 0 0, .slice none 0 0, .slice none 0 0, .bool false, .slice none 0 0, .int .i64 0, .int .i64 0, .int .i64 0]
                have r0 := cell_of_box hbz 0 rfl
                have r1 := cell_of_box hbz 1 rfl
                have r2 := cell_of_box hbz 2 rfl
                have r3 := cell_of_box hbz 3 rfl
                have r4 := cell_of_box hbz 4 rfl
                have r5 := cell_of_box hbz 5 rfl
                have r6 := cell_of_box hbz 6 rfl
                have r7 := cell_of_box hbz 7 rfl
                have r8 := cell_of_box hbz 8 rfl
                have r9 := cell_of_box hbz 9 rfl
                have r10 := cell_of_box hbz 10 rfl
                clear hbz
                refine bodyPost_ret (v := .tuple #[.agg #[.int .i64 0, .int .i64 0, .int .i64 0, .slice none 0 0, .slice none 0 0, .slice none 0 0, .bool false, .slice none 0 0, .int .i64 0, .int .i64 0, .int .i64 0], .int .i64 3]) (by simp [results, Try.results22, go_sem, r0, r1, r2, r3, r4, r5, r6, r7, r8, r9, r10]) rfl ⟨below_row HB5.out (Nat.le_refl _) _, .inl ⟨HS.out, rfl⟩⟩
              · obtain ⟨v5, es, k4, b5, e5, hd5, hk4, rfl, hr5, mt, a5, c5, hes, rfl, ho5⟩ := hc
                have HB5 := Lib.hid (below_then HB4.out hb5)
                have HP5 := Lib.hid (bx_later hb5 HP4.out)
                have HD5 := Lib.hid hd5
                have HES := Lib.hid hes
                have HOE5 := Lib.hid ho5
                have HOO5 : Hid (OwnOps w5 w3.heap.size (.slice a4 ms.length c4) ms) := ⟨own_later HOO4.out.1 hb5, fun m hm => own_later (HOO4.out.2 m hm) hb5⟩
                have hl5 : ((((b.drop k1).drop k2).drop k3).drop k4).length = n - k1 - k2 - k3 - k4 := by rw [List.length_drop, HL4.out]
                have HL5 := Lib.hid hl5
                have C5 := Lib.hid (refGetHands_any hr5 HB5.out hl5 (by omega))
                have HOL5 := Lib.hid (own_later HOL4.out hb5)
                have HO5 := Lib.hid (own_later HO4.out hb5)
                clear hd5 hes ho5 hr5 hb5 hl5 C4
                go_wp2_with fail
                refine C5.out.mono ?_
                rintro e w6 ⟨hb6, hc | hc⟩
                · obtain ⟨hd, rfl⟩ := hc
                  have HB6 := Lib.hid (below_then HB5.out hb6)
                  have HP6 := Lib.hid (bx_later hb6 HP5.out)
                  have HS : Hid (parseT b = none) := parse_no6 HD1.out HD2.out HD4.out HD5.out hd
                  go_wp2_with (refine wpList_store_box (T := 27) rfl _ _ rfl rfl rfl (by kernel_rfl) HP6.out rfl rfl rfl rfl ?_)
                  have hbz := bx_row HP6.out #[.int .i64 0, .int .i64 0, .int .i64 0, .slice none 0 0, .slice none 0 0, .slice none 0 0, .bool false, .slice none 0 0, .int .i64 0, .int .i64 0, .int .i64 0]
                  have r0 := cell_of_box hbz 0 rfl
                  have r1 := cell_of_box hbz 1 rfl
                  have r2 := cell_of_box hbz 2 rfl
                  have r3 := cell_of_box hbz 3 rfl
                  have r4 := cell_of_box hbz 4 rfl
                  have r5 := cell_of_box hbz 5 rfl
                  have r6 := cell_of_box hbz 6 rfl
                  have r7 := cell_of_box hbz 7 rfl
                  have r8 := cell_of_box hbz 8 rfl
                  have r9 := cell_of_box hbz 9 rfl
                  have r10 := cell_of_box hbz 10 rfl
                  clear hbz
                  refine bodyPost_ret (v := .tuple #[.agg #[.int .i64 0, .int .i64 0, .int .i64 0, .slice none 0 0, .slice none 0 0, .slice none 0 0, .bool false, .slice none 0 0, .int .i64 0, .int .i64 0, .int .i64 0], .int .i64 3]) (by simp [results, Try.results22, go_sem, r0, r1, r2, r3, r4, r5, r6, r7, r8, r9, r10]) rfl ⟨below_row HB6.out (Nat.le_refl _) _, .inl ⟨HS.out, rfl⟩⟩
                · obtain ⟨v6, hs', k5, b6, e6, hd6, hk5, rfl, hr6, hs, a6, c6, rfl, rfl, ho6⟩ := hc
                  have HB6 := Lib.hid (below_then HB5.out hb6)
                  have HP6 := Lib.hid (bx_later hb6 HP5.out)
                  have HD6 := Lib.hid hd6
                  have HOH6 := Lib.hid ho6
                  have HOO6 : Hid (OwnOps w6 w3.heap.size (.slice a4 ms.length c4) ms) := ⟨own_later HOO5.out.1 hb6, fun m hm => own_later (HOO5.out.2 m hm) hb6⟩
                  have HOE6 : Hid (OwnOps w6 w4.heap.size (.slice a5 mt.length c5) mt) := ⟨own_later HOE5.out.1 hb6, fun m hm => own_later (HOE5.out.2 m hm) hb6⟩
                  have HO6 := Lib.hid (own_later HO5.out hb6)
                  have hrl : Rd w6 (.slice av 7 cv) 7 ([x0, x1, x2, x3, x4, x5, x6].map ic) := Rd.of_own (own_later HOL5.out hb6)
                  have HALL := Lib.hid (parse_all HD1.out HD2.out HD4.out HD5.out HD6.out)
                  clear hd6 ho6 hr6 hb6 C5
                  obtain ⟨nz, hnz⟩ : ∃ nz, n - k1 - k2 - k3 - k4 - k5 = nz := ⟨_, rfl⟩
                  rw [hnz]
                  have HNZ := Lib.hid hnz
                  clear hnz
                  have hg3 : w.heap.size < w3.heap.size := (Array.getElem?_eq_some_iff.1 HP3.out).1
                  have hg4 : w.heap.size < w4.heap.size := (Array.getElem?_eq_some_iff.1 HP4.out).1
                  have hg5 : w.heap.size < w5.heap.size := (Array.getElem?_eq_some_iff.1 HP5.out).1
                  by_cases h0 : nz = 0
                  · have g1 : decide (0 < (nz : Int)) = false := decide_eq_false (by omega)
                    have g2 : decide (0 < nz) = false := decide_eq_false (by omega)
                    have HS : Hid (parseT b = some (txOf ([x0, x1, x2, x3, x4, x5, x6], (ds, (os, (es, hs)))))) := by show _ = _; rw [HALL.out, if_pos (by have := HNZ.out; have := HN.out; omega)]
                    clear h0
                    obtain ⟨A0, A1, A2, A3, A4, A5, A6, i0, i1, i2, i3, i4, i5, i6, d0, d1, d2, d3, d4, d5, d6⟩ := seven_rd hrl
                    clear hrl
                    go_wp2_with fail
                    refine wp_region_flow (by kernel_rfl) 27 [] (by kernel_rfl) ?_ ?_ ?_
                    · intro x hx; cases hx
                    · intro x hx; cases hx
                    · intro lo hi
                      have kd0 := cell_regrown d0
                      have kd1 := cell_regrown d1
                      have kd2 := cell_regrown d2
                      have kd3 := cell_regrown d3
                      have kd4 := cell_regrown d4
                      have kd5 := cell_regrown d5
                      have kd6 := cell_regrown d6
                      refine flowW_plain rfl ?_
                      go_big_quiet_step (fail)
                      refine wpQuiet_nil ?_
                      refine flowW_plain rfl ?_
                      go_big_quiet_step (fail)
                      refine wpQuiet_nil ?_
                      refine flowW_plain rfl ?_
                      go_big_quiet_step (fail)
                      refine wpQuiet_nil ?_
                      refine flowW_plain rfl ?_
                      go_big_quiet_step (fail)
                      refine wpQuiet_nil ?_
                      refine flowW_plain rfl ?_
                      go_big_quiet_step (fail)
                      refine wpQuiet_nil ?_
                      refine flowW_plain rfl ?_
                      go_big_quiet_step (fail)
                      refine wpQuiet_nil ?_
                      refine flowW_plain rfl ?_
                      go_big_quiet_step (fail)
                      refine wpQuiet_nil ?_
                      refine flowW_plain rfl ?_
                      go_big_quiet_step (fail)
                      refine wpQuiet_nil ?_
                      refine flowW_plain rfl ?_
                      go_big_quiet_step (fail)
                      refine wpQuiet_nil ?_
                      refine flowW_plain rfl ?_
                      go_big_quiet_step (fail)
                      refine wpQuiet_nil ?_
                      refine flowW_plain rfl ?_
                      go_big_quiet_step (fail)
                      refine wpQuiet_nil ?_
                      refine flowW_plain rfl ?_
                      go_big_quiet_step (fail)
                      refine wpQuiet_nil ?_
                      refine flowW_plain rfl ?_
                      go_big_quiet_step (fail)
                      refine wpQuiet_nil ?_
                      refine flowW_plain rfl ?_
                      go_big_quiet_step (fail)
                      refine wpQuiet_nil ?_
                      refine flowW_plain rfl ?_
                      go_big_quiet_step (fail)
                      refine wpQuiet_nil ?_
                      refine flowW_plain rfl ?_
                      go_big_quiet_step (fail)
                      refine wpQuiet_nil ?_
                      refine flowW_plain rfl ?_
                      go_big_quiet_step (fail)
                      refine wpQuiet_nil ?_
                      refine flowW_plain rfl ?_
                      go_big_quiet_step (fail)
                      refine wpQuiet_nil ?_
                      refine flowW_plain rfl ?_
                      go_big_quiet_step (fail)
                      refine wpQuiet_nil ?_
                      refine flowW_plain rfl ?_
                      go_big_quiet_step (fail)
                      refine wpQuiet_nil ?_
                      refine flowW_plain rfl ?_
                      go_big_quiet_step (fail)
                      refine wpQuiet_nil ?_
                      refine flowW_plain rfl ?_
                      go_big_quiet_step (fail)
                      refine wpQuiet_nil ?_
                      refine flowW_plain rfl ?_
                      go_big_quiet_step (fail)
                      refine wpQuiet_nil ?_
                      refine flowW_plain rfl ?_
                      go_big_quiet_step (fail)
                      refine wpQuiet_nil ?_
                      refine flowW_plain rfl ?_
                      go_big_quiet_step (fail)
                      refine wpQuiet_nil ?_
                      refine flowW_plain rfl ?_
                      go_big_quiet_step (fail)
                      refine wpQuiet_nil ?_
                      refine flowW_plain rfl ?_
                      go_big_quiet_step (fail)
                      refine wpQuiet_nil ?_
                      refine flowW_end fun wz hwz hF hD => ?_
                      clear kd0 kd1 kd2 kd3 kd4 kd5 kd6
                      simp only [List.drop_succ_cons, List.drop_zero]
                      have hpz := bx_later hwz HP6.out
                      have HPZ := Lib.hid hpz
                      have HBZ := Lib.hid (below_then HB6.out hwz)
                      have HWZ := Lib.hid hwz
                      clear hF hD hwz hpz d0 i0 d1 i1 d2 i2 d3 i3 d4 i4 d5 i5 d6 i6
                      go_wp2_with (refine wpList_store_box (T := 27) rfl _ _ rfl rfl rfl (by kernel_rfl) HPZ.out rfl rfl rfl rfl ?_)
                      have hbz := bx_row HPZ.out #[.int .i64 x0, .int .i64 x1, .int .i64 x2, .slice av2 nd cv2, .slice a4 ms.length c4, .slice a5 mt.length c5, .bool fb, .slice a6 hs.length c6, .int .i64 x4, .int .i64 x5, .int .i64 x6]
                      have r0 := cell_of_box hbz 0 rfl
                      have r1 := cell_of_box hbz 1 rfl
                      have r2 := cell_of_box hbz 2 rfl
                      have r3 := cell_of_box hbz 3 rfl
                      have r4 := cell_of_box hbz 4 rfl
                      have r5 := cell_of_box hbz 5 rfl
                      have r6 := cell_of_box hbz 6 rfl
                      have r7 := cell_of_box hbz 7 rfl
                      have r8 := cell_of_box hbz 8 rfl
                      have r9 := cell_of_box hbz 9 rfl
                      have r10 := cell_of_box hbz 10 rfl
                      clear hbz
                      have hS : parseT b = some (TxM.tx ⟨x0, x1, x2, ds, ms, mt, fb, hs, x4, x5, x6, .slice av2 nd cv2, .slice a4 ms.length c4, .slice a5 mt.length c5, .slice a6 hs.length c6⟩) := by rw [HS.out, ← HOS.out, ← HES.out, ← HFB.out]; rfl
                      refine bodyPost_ret (v := .tuple #[.agg #[.int .i64 x0, .int .i64 x1, .int .i64 x2, .slice av2 nd cv2, .slice a4 ms.length c4, .slice a5 mt.length c5, .bool fb, .slice a6 hs.length c6, .int .i64 x4, .int .i64 x5, .int .i64 x6], .int .i64 0]) (by simp [results, Try.results22, go_sem, r0, r1, r2, r3, r4, r5, r6, r7, r8, r9, r10]) rfl ⟨below_row HBZ.out (Nat.le_refl _) _, .inr ⟨_, hS, rfl, ?_⟩⟩
                      have own9 : ∀ {e' s' n' : Nat} {v' : Value} {xs' : List Value} {B' : Nat}, w6.ownsRow B' e' s' v' n' xs' → w.heap.size < B' → (wz.setRow w.heap.size #[.int .i64 x0, .int .i64 x1, .int .i64 x2, .slice av2 nd cv2, .slice a4 ms.length c4, .slice a5 mt.length c5, .bool fb, .slice a6 hs.length c6, .int .i64 x4, .int .i64 x5, .int .i64 x6]).ownsRow B' e' s' v' n' xs' := fun ho hB => own_but (own_later ho HWZ.out) (but_row wz w.heap.size _) (fun q hq e => own_g (g := w.heap.size) (own_later ho HWZ.out) hB (by rw [hq, e]))
                      refine ⟨?_, ⟨Rd.of_own (own9 HOO6.out.1 hg3), fun m hm => Rd.of_own (own9 (HOO6.out.2 m hm) hg3)⟩, ⟨Rd.of_own (own9 HOE6.out.1 hg4), fun m hm => Rd.of_own (own9 (HOE6.out.2 m hm) hg4)⟩, Rd.of_own (own9 HOH6.out hg5)⟩
                      show Rd _ (.slice av2 nd cv2) ds.length (ds.map ic)
                      rw [HND.out]
                      exact Rd.of_own (own9 HO6.out hg2)
                  · have g1 : decide (0 < (nz : Int)) = true := decide_eq_true (by omega)
                    have g2 : decide (0 < nz) = true := decide_eq_true (by omega)
                    have HN0 := Lib.hid h0
                    clear h0 hrl
                    have HS : Hid (parseT b = none) := by show parseT b = none; rw [HALL.out, if_neg (by have := HNZ.out; have := HN.out; have := HN0.out; omega)]
                    go_wp2_with (refine wpList_store_box (T := 27) rfl _ _ rfl rfl rfl (by kernel_rfl) HP6.out rfl rfl rfl rfl ?_)
                    have hbz := bx_row HP6.out #[.int .i64 0, .int .i64 0, .int .i64 0, .slice none 0 0, .slice none 0 0, .slice none 0 0, .bool false, .slice none 0 0, .int .i64 0, .int .i64 0, .int .i64 0]
                    have r0 := cell_of_box hbz 0 rfl
                    have r1 := cell_of_box hbz 1 rfl
                    have r2 := cell_of_box hbz 2 rfl
                    have r3 := cell_of_box hbz 3 rfl
                    have r4 := cell_of_box hbz 4 rfl
                    have r5 := cell_of_box hbz 5 rfl
                    have r6 := cell_of_box hbz 6 rfl
                    have r7 := cell_of_box hbz 7 rfl
                    have r8 := cell_of_box hbz 8 rfl
                    have r9 := cell_of_box hbz 9 rfl
                    have r10 := cell_of_box hbz 10 rfl
                    clear hbz
                    refine bodyPost_ret (v := .tuple #[.agg #[.int .i64 0, .int .i64 0, .int .i64 0, .slice none 0 0, .slice none 0 0, .slice none 0 0, .bool false, .slice none 0 0, .int .i64 0, .int .i64 0, .int .i64 0], .int .i64 3]) (by simp [results, Try.results22, go_sem, r0, r1, r2, r3, r4, r5, r6, r7, r8, r9, r10]) rfl ⟨below_row HB6.out (Nat.le_refl _) _, .inl ⟨HS.out, rfl⟩⟩

theorem refParse_none {v : Value} {b : List UInt8} {n : Nat} {w : World} (h : Rd w v n (b.map bc)) (hn : b.length = n) (hl : n ≤ 1000000000) (hp : parseT b = none) :
    Calls Try.prog 22 #[v] w fun e w' => e = .returned (.tuple #[.agg #[.int .i64 0, .int .i64 0, .int .i64 0, .slice none 0 0, .slice none 0 0, .slice none 0 0, .bool false, .slice none 0 0, .int .i64 0, .int .i64 0, .int .i64 0], .int .i64 3]) ∧ Below w.heap.size w w' := by
  subst hn
  refine (refParse_any v b w h hl).mono ?_
  rintro e w' ⟨hb, ⟨_, rfl⟩ | ⟨t, ht, _⟩⟩
  · exact ⟨rfl, hb⟩
  · rw [hp] at ht; cases ht
theorem refParse_some {v : Value} {b : List UInt8} {n : Nat} {w : World} {t0 : TxT} (h : Rd w v n (b.map bc)) (hn : b.length = n) (hl : n ≤ 1000000000) (hp : parseT b = some t0) :
    Calls Try.prog 22 #[v] w fun e w' => ∃ t : TxM, t.tx = t0 ∧ e = .returned (.tuple #[t.agg, .int .i64 0]) ∧ t.Reads w' ∧ Below w.heap.size w w' := by
  subst hn
  refine (refParse_any v b w h hl).mono ?_
  rintro e w' ⟨hb, ⟨hq, _⟩ | ⟨t, ht, he, hr⟩⟩
  · rw [hp] at hq; cases hq
  · rw [hp] at ht
    exact ⟨t, (Option.some.inj ht).symm, he, hr, hb⟩
end Go.Proofs.Ytliokkoalkhpaaa
