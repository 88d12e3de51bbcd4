/-
  The law PastAhead. (printed by tools/gen_l20.py)
-/
import Derived.Test.YtnolbabpkhdpmaaN5
namespace Go.Proofs.Ytnolbabpkhdpmaa.pastAhead
open Go.ChangeShapes Go.WideShapes Go.ChangeAt Go.RowKit Go.Sort Go.BigFrame Go.Proofs.Ytnolbabpkhdpmaa
open Go.ChangeMaps (open_string shut_string)
attribute [local irreducible] FlowW

theorem ofV_v {v : Value} {l : List Int} {d f : Int} {w : World} (hf : ofV l d = f) (h : Rd w v l.length (l.map ic)) : Calls Try.prog 10 #[v, .int .i64 d] w fun e w' => e = .returned (.int .i64 f) ∧ w = w' := hf ▸ ofV_any v l d w h
theorem few_b {va : Value} {l : List TxS} {w : World} (r : Bool) (hr : fewL 20 l = r) (ha : LRd w va l) : Calls Try.prog 8 #[va] w fun e w' => e = .returned (.bool r) ∧ Below w.heap.size w w' := hr ▸ few20_any w ha
theorem closed_b {vv vl : Value} {line : List Int} {last : Int} {l : List TxS} {w : World} (r : Bool) (hr : closedT line last l = r) (hv : Rd w vv line.length (line.map ic)) (hl : LRd w vl l) (hwr : ∀ d, -9223372036854775808 ≤ ofV line d) (hn : l.length ≤ 1000000) :
    Calls Try.prog 9 #[vv, .int .i64 last, vl] w fun e w' => e = .returned (.bool r) ∧ Below w.heap.size w w' := hr ▸ closed_any w hv hl hwr hn
theorem vSame_b {va vb : Value} {a b : List Int} {w : World} (r : Bool) (hr : sameB a b = r) (ha : Rd w va a.length (a.map ic)) (hb : Rd w vb b.length (b.map ic)) :
    Calls Try.prog 14 #[va, vb] w fun e w' => e = .returned (.bool r) ∧ w = w' := hr ▸ vSame_any va vb a b w ha hb
def knewB (dev seq : Int) (deps : List Int) (d q : Int) : Bool := decide (d = dev ∧ q = seq) || hasV deps ⟨d, q⟩
theorem knew_b {dev seq time note whom upto d q : Int} {fm : Bool} {ad ao ae ah : Option Addr} {nd cd no co ne ce nh ch : Nat} {deps : List Int} {w : World} (r : Bool) (hr : knewB dev seq deps d q = r) (hn : deps.length = nd) (hd : Rd w (.slice ad nd cd) deps.length (deps.map ic)) :
    Calls Try.prog 16 #[.agg #[.int .i64 dev, .int .i64 seq, .int .i64 time, .slice ad nd cd, .slice ao no co, .slice ae ne ce, .bool fm, .slice ah nh ch, .int .i64 note, .int .i64 whom, .int .i64 upto], .agg #[.int .i64 d, .int .i64 q]] w fun e w' => e = .returned (.bool r) ∧ Below w.heap.size w w' := by
  subst hn hr
  exact knew_any deps d q w hd
theorem knew_no {line : List Int} {last : Int} {l o : List TxS} (h : Cl line last l) (ho : ordT l = o) {i k : Nat} {x y : TxS} (hx : o[i]? = some x) (hy : o[k]? = some y) (hik : i < k) (hxl : x ∈ l) (hyl : y ∈ l) (hu : ofV line x.dev < x.seq) : knewB x.dev x.seq x.deps y.dev y.seq = false := by
  subst ho
  have ht := ordT_time hx hy hik
  unfold knewB
  rw [Bool.or_eq_false_iff]
  constructor
  · refine decide_eq_false fun e => ?_
    have he := h.nd.eq hyl hxl e.1 e.2
    subst he
    obtain ⟨h1, e1⟩ := List.getElem?_eq_some_iff.1 hx
    obtain ⟨h2, e2⟩ := List.getElem?_eq_some_iff.1 hy
    have := List.pairwise_iff_getElem.1 (nd_ord h.nd) i k h1 h2 hik
    rw [e1, e2] at this
    exact this ⟨rfl, rfl⟩
  · cases hh : hasV x.deps ⟨y.dev, y.seq⟩
    · rfl
    · have := h.time hxl hu hyl hh
      omega
set_option maxRecDepth 100000 in
set_option maxHeartbeats 16000000 in
theorem walk (v0 : Value) (line : List Int) (last : Int) (v2 : Value) (l : List TxS) (w : World) (hv : Rd w v0 line.length (line.map ic)) (hw : ∀ d, -9223372036854775808 ≤ ofV line d) (_ : -9223372036854775808 ≤ last ∧ last ≤ 9223372036854775807) (hl : LRd w v2 l) (hbd : ∀ x ∈ l, x.Bd) :
    Calls Try.prog 5 #[v0, .int .i64 last, v2] w fun e w' => e = .returned (.bool true) ∧ Below w.heap.size w w' := by
  obtain ⟨ga, gc, ev0, hn1v0, hn2v0, -, -⟩ := id hv
  unfold maxLen at hn2v0
  obtain ⟨m, hlm⟩ : ∃ m, line.length = m := ⟨_, rfl⟩
  rw [hlm] at ev0 hn1v0
  subst ev0
  have HLm := Lib.hid hlm
  clear hlm
  obtain ⟨la, lc, ev2, hn1v2, hn2v2, -, -⟩ := id hl.1
  unfold maxLen at hn2v2
  obtain ⟨n, hln⟩ : ∃ n, l.length = n := ⟨_, rfl⟩
  rw [hln] at ev2 hn1v2
  subst ev2
  have HLn := Lib.hid hln
  clear hln
  have HV := Lib.hid hv
  have HW := Lib.hid hw
  have HL := Lib.hid hl
  have HBD := Lib.hid hbd
  clear hv hw hl hbd
  go_enter Try.func5, Try.ntmps5
  go_wp2_with fail
  refine (awk_any _).mono ?_
  rintro e w1 ⟨rfl, hb⟩
  have HB := Lib.hid hb
  clear hb
  cases hf : fewL 20 l
  · have HF := Lib.hid hf
    clear hf
    go_wp2_with fail
    refine (few_b false HF.out (HL.out.later HB.out)).mono ?_
    rintro e wn ⟨rfl, hb⟩
    replace HB := Lib.hid (below_then HB.out hb)
    clear hb
    go_wp2_with fail
    go_ret
    exact ⟨rfl, HB.out⟩
  have HF := Lib.hid hf
  have hff := fewL_facts hf
  have hn20 : n ≤ 20 := by have := hff.1; have := HLn.out; omega
  have HFF := Lib.hid hff.2
  clear hf hff
  go_wp2_with fail
  refine (few_b true HF.out (HL.out.later HB.out)).mono ?_
  rintro e wn ⟨rfl, hb⟩
  replace HB := Lib.hid (below_then HB.out hb)
  clear hb
  by_cases hm : m ≤ 100
  case neg =>
    have hm1 : decide ((100 : Int) < (m : Int)) = true := decide_eq_true (by omega)
    have hm2 : decide (100 < m) = true := decide_eq_true (by omega)
    go_wp2_with fail
    go_ret
    exact ⟨rfl, HB.out⟩
  have hm1 : decide ((100 : Int) < (m : Int)) = false := decide_eq_false (by omega)
  have hm2 : decide (100 < m) = false := decide_eq_false (by omega)
  cases hc : closedT line last l
  · have HC := Lib.hid hc
    clear hc
    go_wp2_with fail
    refine (closed_b false HC.out (HV.out.later HB.out) (HL.out.later HB.out) HW.out (by have := HLn.out; omega)).mono ?_
    rintro e wn ⟨rfl, hb⟩
    replace HB := Lib.hid (below_then HB.out hb)
    clear hb
    go_wp2_with fail
    go_ret
    exact ⟨rfl, HB.out⟩
  have HC := Lib.hid hc
  have HCL := Lib.hid (closed_iff.1 hc)
  clear hc
  go_wp2_with fail
  refine (closed_b true HC.out (HV.out.later HB.out) (HL.out.later HB.out) HW.out (by have := HLn.out; omega)).mono ?_
  rintro e wn ⟨rfl, hb⟩
  replace HB := Lib.hid (below_then HB.out hb)
  clear hb
  clear hm1 hm2
  go_wp2_with fail
  refine (ordTx_any _ (HL.out.later HB.out) (by have := HLn.out; omega)).mono ?_
  rintro e w2 ⟨vo, rfl, ho, hb⟩
  replace HB := Lib.hid (below_then HB.out hb)
  clear hb
  have hol : (ordT l).length = n := (ordT_length l).trans HLn.out
  have hor := LRd.of_own ho (fun t ht => (HL.out.2 t (ordT_mem ht)).later HB.out)
  obtain ⟨o, hoe⟩ : ∃ o, ordT l = o := ⟨_, rfl⟩
  rw [hoe] at hor hol
  obtain ⟨oa, oc, ev, hon, hom, -, -⟩ := id hor.1
  rw [hol] at ev hon
  subst ev
  unfold maxLen at hom
  have HOE := Lib.hid hoe
  have HOL := Lib.hid hol
  have HO := Lib.hid hor
  clear hol hor ho hoe
  go_wp2_with fail
  go_loopw [9] (fun vi wr => ∃ i : Nat, i ≤ n ∧ vi = .int .i64 i ∧ Hid (Below w2.heap.size w2 wr)) (fun vi _ => n - (intOf vi).toNat)
  case atStart => exact ⟨0, Nat.zero_le _, by go_num, Below.refl _ _⟩
  case round =>
    obtain ⟨i, hi, rfl, HBL⟩ := hrel
    rename World => wr
    by_cases hlt : i < n
    · have hk2 : (i : Int) < (n : Int) := by omega
      have hi0 : (0 : Int) ≤ (i : Int) := by omega
      have hii : i < o.length := by have := HOL.out; omega
      obtain ⟨x, hx⟩ : ∃ x, o[i] = x := ⟨_, rfl⟩
      have HMx : Hid (o[i]? = some x) := by show _ = _; rw [List.getElem?_eq_getElem hii, hx]
      have HIx : Hid (x ∈ l) := by show _ ∈ _; rw [← ordT_iff, HOE.out, ← hx]; exact List.getElem_mem hii
      have hlr := (HO.out.later HBL.out).1
      rw [HOL.out] at hlr
      obtain ⟨bbx, oox, ex, c0, c1, c2, c3, c4, c5, c6, c7, c8, c9, c10, -⟩ := rd_txs hlr HOL.out.symm i hii hx
      clear hlr hx hii
      obtain ⟨f, hf⟩ : ∃ f, ofV line x.dev = f := ⟨_, rfl⟩
      have HF0 := Lib.hid hf
      clear hf
      go_wp2_with fail
      refine wp_region_flow (by kernel_rfl) 13 [(11, ⟨fun v => v = .int .i64 f, fun _ _ _ _ => True⟩)] (by kernel_rfl) ?_ ?_ ?_
      · intro x hx
        simp only [List.mem_cons, List.not_mem_nil, or_false] at hx
        subst hx
        exact ⟨_, rfl⟩
      · intro x hx v lo hi w w' h hb
        simp only [List.mem_cons, List.not_mem_nil, or_false] at hx
        subst hx
        exact trivial
      · intro lo hi
        have kc0 := cell_regrown c0
        have kc1 := cell_regrown c1
        refine flowW_plain rfl ?_
        go_big_quiet_step (fail)
        refine wpQuiet_nil ?_
        refine flowW_plain rfl ?_
        go_big_quiet_step (fail)
        refine wpQuiet_nil ?_
        refine flowW_plain rfl ?_
        go_big_quiet_step (fail)
        refine wpQuiet_nil ?_
        refine flowW_plain rfl ?_
        go_big_quiet_step (fail)
        refine wpQuiet_nil ?_
        refine flowW_plain rfl ?_
        go_big_quiet_step (fail)
        refine wpQuiet_nil ?_
        refine flowW_plain rfl ?_
        go_big_quiet_step (fail)
        refine wpQuiet_nil ?_
        refine flowW_plain rfl ?_
        go_big_quiet_step (fail)
        refine wpQuiet_nil ?_
        refine flowW_plain rfl ?_
        go_big_quiet_step (fail)
        refine wpQuiet_nil ?_
        refine flowW_plain rfl ?_
        go_big_quiet_step (fail)
        refine wpQuiet_nil ?_
        refine flowW_plain rfl ?_
        go_big_quiet_step (fail)
        refine wpQuiet_nil ?_
        refine flowW_plain rfl ?_
        go_big_quiet_step (fail)
        refine wpQuiet_nil ?_
        refine flowW_call rfl rfl ?_ ?_
        · intro W hW hF K hK
          clear kc0 kc1
          go_wp2_with fail
          refine (ofV_v HF0.out (HV.out.later (below_then HB.out (below_then HBL.out hW)))).mono ?_
          rintro e wq ⟨rfl, rfl⟩
          go_wp2_with fail
          exact hK _ _ rfl trivial (Below.refl _ _)
        rintro v rfl K hK
        go_simp
        refine hK _ ?_
        clear hK K
        refine flowW_plain rfl ?_
        go_big_quiet_step (fail)
        refine wpQuiet_nil ?_
        refine flowW_end fun wz hwz hF hD => ?_
        clear kc0 kc1
        simp only [List.drop_succ_cons, List.drop_zero]
        have HBM := Lib.hid (below_then HBL.out hwz)
        clear hwz hF hD ex c0 c1 c2 c3 c4 c5 c6 c7 c8 c9 c10
        by_cases hle : x.seq ≤ f
        · have hle2 : decide (x.seq ≤ f) = true := decide_eq_true hle
          go_wp2_with fail
          go_roundw
          case rel => exact ⟨i + 1, by omega, by go_num, HBM.out⟩
          case measure => simp [intOf]; omega
        have hle2 : decide (x.seq ≤ f) = false := decide_eq_false hle
        have HUP : Hid (ofV line x.dev < x.seq) := by show _ < _; rw [HF0.out]; omega
        have HRX := Lib.hid (HO.out.2 x (by rw [← HOE.out, ordT_iff]; exact HIx.out))
        have HSM : Hid (sameB (knownT line (pastT l x.deps)) x.deps = true) := sameB_iff.2 (HCL.out.known HIx.out HUP.out)
        have hlr := (HO.out.later HBM.out).1
        rw [HOL.out] at hlr
        obtain ⟨hix, hex⟩ := List.getElem?_eq_some_iff.1 HMx.out
        obtain ⟨bx, ox, ex, d0, d1, d2, d3, d4, d5, d6, d7, d8, d9, d10, -⟩ := rd_txs hlr HOL.out.symm i hix hex
        clear hlr hex hix
        go_wp2_with fail
        refine wp_region_flow (by kernel_rfl) 15 [(6, ⟨fun _ => True, fun v _ _ w' => LRd w' v (pastT l x.deps)⟩), (7, ⟨fun _ => True, fun v _ _ w' => Rd w' v (knownT line (pastT l x.deps)).length ((knownT line (pastT l x.deps)).map ic)⟩), (13, ⟨fun v => v = .bool true, fun _ _ _ _ => True⟩)] (by kernel_rfl) ?_ ?_ ?_
        · intro x hx
          simp only [List.mem_cons, List.not_mem_nil, or_false] at hx
          rcases hx with rfl | rfl | rfl
          · exact ⟨.int .i64 0, trivial⟩
          · exact ⟨.int .i64 0, trivial⟩
          · exact ⟨_, rfl⟩
        · intro x hx v lo hi w w' h hb
          simp only [List.mem_cons, List.not_mem_nil, or_false] at hx
          rcases hx with rfl | rfl | rfl
          · exact h.later hb
          · exact h.later hb
          · exact trivial
        · intro lo hi
          have kd0 := cell_regrown d0
          have kd1 := cell_regrown d1
          have kd2 := cell_regrown d2
          have kd3 := cell_regrown d3
          have kd4 := cell_regrown d4
          have kd5 := cell_regrown d5
          have kd6 := cell_regrown d6
          have kd7 := cell_regrown d7
          have kd8 := cell_regrown d8
          have kd9 := cell_regrown d9
          have kd10 := cell_regrown d10
          refine flowW_plain rfl ?_
          go_big_quiet_step (fail)
          refine wpQuiet_nil ?_
          refine flowW_plain rfl ?_
          go_big_quiet_step (fail)
          refine wpQuiet_nil ?_
          refine flowW_plain rfl ?_
          go_big_quiet_step (fail)
          refine wpQuiet_nil ?_
          refine flowW_plain rfl ?_
          go_big_quiet_step (fail)
          refine wpQuiet_nil ?_
          refine flowW_plain rfl ?_
          go_big_quiet_step (fail)
          refine wpQuiet_nil ?_
          refine flowW_plain rfl ?_
          go_big_quiet_step (fail)
          refine wpQuiet_nil ?_
          refine flowW_call rfl rfl ?_ ?_
          · intro W hW hF K hK
            clear kd0 kd1 kd2 kd3 kd4 kd5 kd6 kd7 kd8 kd9 kd10
            go_wp2_with fail
            refine (past_any (deps := x.deps) _ (HL.out.later (below_then HB.out (below_then HBM.out hW))) (HRX.out.later (below_then HBM.out hW)).deps' (by have := HLn.out; omega)).mono ?_
            rintro e wq ⟨vq, rfl, hq, hbq⟩
            go_wp2_with fail
            exact hK _ _ trivial hq hbq
          rintro v - K hK
          go_simp
          refine hK _ ?_
          clear hK K
          refine flowW_call rfl rfl ?_ ?_
          · intro W hW hF K hK
            clear kd0 kd1 kd2 kd3 kd4 kd5 kd6 kd7 kd8 kd9 kd10
            go_wp2_with fail
            refine (known_any _ (HV.out.later (below_then HB.out (below_then HBM.out hW))) (hF 6 rfl) (by have := HLn.out; have := pastT_len l x.deps; omega)).mono ?_
            rintro e wq ⟨vq, rfl, hq, hbq⟩
            go_wp2_with fail
            exact hK _ _ trivial (Rd.of_own hq) hbq
          rintro v - K hK
          go_simp
          refine hK _ ?_
          clear hK K
          refine flowW_plain rfl ?_
          go_big_quiet_step (fail)
          refine wpQuiet_nil ?_
          refine flowW_plain rfl ?_
          go_big_quiet_step (fail)
          refine wpQuiet_nil ?_
          refine flowW_plain rfl ?_
          go_big_quiet_step (fail)
          refine wpQuiet_nil ?_
          refine flowW_plain rfl ?_
          go_big_quiet_step (fail)
          refine wpQuiet_nil ?_
          refine flowW_plain rfl ?_
          go_big_quiet_step (fail)
          refine wpQuiet_nil ?_
          refine flowW_call rfl rfl ?_ ?_
          · intro W hW hF K hK
            clear kd0 kd1 kd2 kd3 kd4 kd5 kd6 kd7 kd8 kd9 kd10
            go_wp2_with fail
            refine (vSame_b true HSM.out (hF 7 rfl) (HRX.out.later (below_then HBM.out hW)).deps').mono ?_
            rintro e wq ⟨rfl, rfl⟩
            go_wp2_with fail
            exact hK _ _ rfl trivial (Below.refl _ _)
          rintro v rfl K hK
          go_simp
          refine hK _ ?_
          clear hK K
          refine flowW_plain rfl ?_
          go_big_quiet_step (fail)
          refine wpQuiet_nil ?_
          refine flowW_end fun wz hwz hF hD => ?_
          clear kd0 kd1 kd2 kd3 kd4 kd5 kd6 kd7 kd8 kd9 kd10
          simp only [List.drop_succ_cons, List.drop_zero]
          have HBP := Lib.hid (below_then HBM.out hwz)
          clear hwz hF hD ex d0 d1 d2 d3 d4 d5 d6 d7 d8 d9 d10
          go_wp2_with fail
          have HRR := HRX
          go_loopw [10] (fun vi wr => ∃ k : Nat, k ≤ n ∧ vi = .int .i64 k ∧ Hid (Below w2.heap.size w2 wr)) (fun vi _ => n - (intOf vi).toNat)
          case atStart => exact ⟨i, by omega, by go_num, HBP.out⟩
          case round =>
            obtain ⟨k, hk, rfl, HBN⟩ := hrel
            rename World => wk
            by_cases hlk : k < n
            · have hk3 : (k : Int) < (n : Int) := by omega
              have hk0 : (0 : Int) ≤ (k : Int) := by omega
              have hi0 : (0 : Int) ≤ (i : Int) := by omega
              have hik : k < o.length := by have := HOL.out; omega
              obtain ⟨y, hy⟩ : ∃ y, o[k] = y := ⟨_, rfl⟩
              have HMy : Hid (o[k]? = some y) := by show _ = _; rw [List.getElem?_eq_getElem hik, hy]
              have HIy : Hid (y ∈ l) := by show _ ∈ _; rw [← ordT_iff, HOE.out, ← hy]; exact List.getElem_mem hik
              have hlr := (HO.out.later HBN.out).1
              rw [HOL.out] at hlr
              obtain ⟨bby, ooy, ey, z0, z1, z2, z3, z4, z5, z6, z7, z8, z9, z10, -⟩ := rd_txs hlr HOL.out.symm k hik hy
              clear hlr hy hik
              have hlr := (HO.out.later HBN.out).1
              rw [HOL.out] at hlr
              obtain ⟨hix, hex⟩ := List.getElem?_eq_some_iff.1 HMx.out
              obtain ⟨bx, ox, ex, d0, d1, d2, d3, d4, d5, d6, d7, d8, d9, d10, -⟩ := rd_txs hlr HOL.out.symm i hix hex
              clear hlr hex hix
              obtain ⟨r, hr⟩ : ∃ r, knewB x.dev x.seq x.deps y.dev y.seq = r := ⟨_, rfl⟩
              have HNO : Hid (i < k → knewB x.dev x.seq x.deps y.dev y.seq = false) := fun h => knew_no HCL.out HOE.out HMx.out HMy.out h HIx.out HIy.out HUP.out
              cases r
              · have HKN := Lib.hid hr
                clear hr
                go_wp2_with fail
                refine wp_region_flow (by kernel_rfl) 15 [(8, ⟨fun v => v = .agg #[.int .i64 y.dev, .int .i64 y.seq], fun _ _ _ _ => True⟩), (9, ⟨fun v => v = .bool false, fun _ _ _ _ => True⟩)] (by kernel_rfl) ?_ ?_ ?_
                · intro x hx
                  simp only [List.mem_cons, List.not_mem_nil, or_false] at hx
                  rcases hx with rfl | rfl
                  · exact ⟨_, rfl⟩
                  · exact ⟨_, rfl⟩
                · intro x hx v lo hi w w' h hb
                  simp only [List.mem_cons, List.not_mem_nil, or_false] at hx
                  rcases hx with rfl | rfl
                  · exact trivial
                  · exact trivial
                · intro lo hi
                  have kd0 := cell_regrown d0
                  have kd1 := cell_regrown d1
                  have kd2 := cell_regrown d2
                  have kd3 := cell_regrown d3
                  have kd4 := cell_regrown d4
                  have kd5 := cell_regrown d5
                  have kd6 := cell_regrown d6
                  have kd7 := cell_regrown d7
                  have kd8 := cell_regrown d8
                  have kd9 := cell_regrown d9
                  have kd10 := cell_regrown d10
                  have kz0 := cell_regrown z0
                  have kz1 := cell_regrown z1
                  have kz2 := cell_regrown z2
                  have kz3 := cell_regrown z3
                  have kz4 := cell_regrown z4
                  have kz5 := cell_regrown z5
                  have kz6 := cell_regrown z6
                  have kz7 := cell_regrown z7
                  have kz8 := cell_regrown z8
                  have kz9 := cell_regrown z9
                  have kz10 := cell_regrown z10
                  refine flowW_plain rfl ?_
                  go_big_quiet_step (fail)
                  refine wpQuiet_nil ?_
                  refine flowW_plain rfl ?_
                  go_big_quiet_step (fail)
                  refine wpQuiet_nil ?_
                  refine flowW_plain rfl ?_
                  go_big_quiet_step (fail)
                  refine wpQuiet_nil ?_
                  refine flowW_plain rfl ?_
                  go_big_quiet_step (fail)
                  refine wpQuiet_nil ?_
                  refine flowW_plain rfl ?_
                  go_big_quiet_step (fail)
                  refine wpQuiet_nil ?_
                  refine flowW_plain rfl ?_
                  go_big_quiet_step (fail)
                  refine wpQuiet_nil ?_
                  refine flowW_plain rfl ?_
                  go_big_quiet_step (fail)
                  refine wpQuiet_nil ?_
                  refine flowW_plain rfl ?_
                  go_big_quiet_step (fail)
                  refine wpQuiet_nil ?_
                  refine flowW_call rfl rfl ?_ ?_
                  · intro W hW hF K hK
                    clear kd0 kd1 kd2 kd3 kd4 kd5 kd6 kd7 kd8 kd9 kd10 kz0 kz1 kz2 kz3 kz4 kz5 kz6 kz7 kz8 kz9 kz10
                    go_wp2_with fail
                    refine (dot_any _).mono ?_
                    rintro e wq ⟨rfl, hbq⟩
                    go_wp2_with fail
                    exact hK _ _ rfl trivial hbq
                  rintro v rfl K hK
                  go_simp
                  refine hK _ ?_
                  clear hK K
                  refine flowW_call rfl rfl ?_ ?_
                  · intro W hW hF K hK
                    clear kd0 kd1 kd2 kd3 kd4 kd5 kd6 kd7 kd8 kd9 kd10 kz0 kz1 kz2 kz3 kz4 kz5 kz6 kz7 kz8 kz9 kz10
                    go_wp2_with fail
                    refine (knew_b false HKN.out HRX.out.hnd.symm (HRX.out.hnd ▸ (HRX.out.later (below_then HBN.out hW)).deps')).mono ?_
                    rintro e wq ⟨rfl, hbq⟩
                    go_wp2_with fail
                    exact hK _ _ rfl trivial hbq
                  rintro v rfl K hK
                  go_simp
                  refine hK _ ?_
                  clear hK K
                  refine flowW_plain rfl ?_
                  go_big_quiet_step (fail)
                  refine wpQuiet_nil ?_
                  refine flowW_skip rfl ?_
                  go_big_quiet_step (fail)
                  refine wpQuiet_nil ?_
                  refine flowW_skip rfl ?_
                  go_big_quiet_step (fail)
                  refine wpQuiet_nil ?_
                  refine flowW_skip rfl ?_
                  go_big_quiet_step (fail)
                  refine wpQuiet_nil ?_
                  refine flowW_plain rfl ?_
                  go_big_quiet_step (fail)
                  refine wpQuiet_nil ?_
                  refine flowW_end fun wz hwz hF hD => ?_
                  clear kd0 kd1 kd2 kd3 kd4 kd5 kd6 kd7 kd8 kd9 kd10 kz0 kz1 kz2 kz3 kz4 kz5 kz6 kz7 kz8 kz9 kz10
                  simp only [List.drop_succ_cons, List.drop_zero]
                  have HBO := Lib.hid (below_then HBN.out hwz)
                  clear hwz hF hD ex ey d0 d1 d2 d3 d4 d5 d6 d7 d8 d9 d10 z0 z1 z2 z3 z4 z5 z6 z7 z8 z9 z10
                  go_wp2_with fail
                  go_roundw
                  case rel => exact ⟨k + 1, by omega, by go_num, HBO.out⟩
                  case measure => simp [intOf]; omega
              · have HKN := Lib.hid hr
                have hki : k ≤ i := Nat.ge_of_not_lt fun h => absurd hr (by rw [HNO.out h]; simp)
                have hki2 : decide ((i : Int) < (k : Int)) = false := decide_eq_false (by omega)
                have hki3 : decide (i < k) = false := decide_eq_false (by omega)
                clear hr
                go_wp2_with fail
                refine wp_region_flow (by kernel_rfl) 15 [(8, ⟨fun v => v = .agg #[.int .i64 y.dev, .int .i64 y.seq], fun _ _ _ _ => True⟩), (9, ⟨fun v => v = .bool true, fun _ _ _ _ => True⟩)] (by kernel_rfl) ?_ ?_ ?_
                · intro x hx
                  simp only [List.mem_cons, List.not_mem_nil, or_false] at hx
                  rcases hx with rfl | rfl
                  · exact ⟨_, rfl⟩
                  · exact ⟨_, rfl⟩
                · intro x hx v lo hi w w' h hb
                  simp only [List.mem_cons, List.not_mem_nil, or_false] at hx
                  rcases hx with rfl | rfl
                  · exact trivial
                  · exact trivial
                · intro lo hi
                  have kd0 := cell_regrown d0
                  have kd1 := cell_regrown d1
                  have kd2 := cell_regrown d2
                  have kd3 := cell_regrown d3
                  have kd4 := cell_regrown d4
                  have kd5 := cell_regrown d5
                  have kd6 := cell_regrown d6
                  have kd7 := cell_regrown d7
                  have kd8 := cell_regrown d8
                  have kd9 := cell_regrown d9
                  have kd10 := cell_regrown d10
                  have kz0 := cell_regrown z0
                  have kz1 := cell_regrown z1
                  have kz2 := cell_regrown z2
                  have kz3 := cell_regrown z3
                  have kz4 := cell_regrown z4
                  have kz5 := cell_regrown z5
                  have kz6 := cell_regrown z6
                  have kz7 := cell_regrown z7
                  have kz8 := cell_regrown z8
                  have kz9 := cell_regrown z9
                  have kz10 := cell_regrown z10
                  refine flowW_plain rfl ?_
                  go_big_quiet_step (fail)
                  refine wpQuiet_nil ?_
                  refine flowW_plain rfl ?_
                  go_big_quiet_step (fail)
                  refine wpQuiet_nil ?_
                  refine flowW_plain rfl ?_
                  go_big_quiet_step (fail)
                  refine wpQuiet_nil ?_
                  refine flowW_plain rfl ?_
                  go_big_quiet_step (fail)
                  refine wpQuiet_nil ?_
                  refine flowW_plain rfl ?_
                  go_big_quiet_step (fail)
                  refine wpQuiet_nil ?_
                  refine flowW_plain rfl ?_
                  go_big_quiet_step (fail)
                  refine wpQuiet_nil ?_
                  refine flowW_plain rfl ?_
                  go_big_quiet_step (fail)
                  refine wpQuiet_nil ?_
                  refine flowW_plain rfl ?_
                  go_big_quiet_step (fail)
                  refine wpQuiet_nil ?_
                  refine flowW_call rfl rfl ?_ ?_
                  · intro W hW hF K hK
                    clear kd0 kd1 kd2 kd3 kd4 kd5 kd6 kd7 kd8 kd9 kd10 kz0 kz1 kz2 kz3 kz4 kz5 kz6 kz7 kz8 kz9 kz10
                    go_wp2_with fail
                    refine (dot_any _).mono ?_
                    rintro e wq ⟨rfl, hbq⟩
                    go_wp2_with fail
                    exact hK _ _ rfl trivial hbq
                  rintro v rfl K hK
                  go_simp
                  refine hK _ ?_
                  clear hK K
                  refine flowW_call rfl rfl ?_ ?_
                  · intro W hW hF K hK
                    clear kd0 kd1 kd2 kd3 kd4 kd5 kd6 kd7 kd8 kd9 kd10 kz0 kz1 kz2 kz3 kz4 kz5 kz6 kz7 kz8 kz9 kz10
                    go_wp2_with fail
                    refine (knew_b true HKN.out HRX.out.hnd.symm (HRX.out.hnd ▸ (HRX.out.later (below_then HBN.out hW)).deps')).mono ?_
                    rintro e wq ⟨rfl, hbq⟩
                    go_wp2_with fail
                    exact hK _ _ rfl trivial hbq
                  rintro v rfl K hK
                  go_simp
                  refine hK _ ?_
                  clear hK K
                  refine flowW_plain rfl ?_
                  go_big_quiet_step (fail)
                  refine wpQuiet_nil ?_
                  refine flowW_plain rfl ?_
                  go_big_quiet_step (fail)
                  refine wpQuiet_nil ?_
                  refine flowW_plain rfl ?_
                  go_big_quiet_step (fail)
                  refine wpQuiet_nil ?_
                  refine flowW_plain rfl ?_
                  go_big_quiet_step (fail)
                  refine wpQuiet_nil ?_
                  refine flowW_plain rfl ?_
                  go_big_quiet_step (fail)
                  refine wpQuiet_nil ?_
                  refine flowW_end fun wz hwz hF hD => ?_
                  clear kd0 kd1 kd2 kd3 kd4 kd5 kd6 kd7 kd8 kd9 kd10 kz0 kz1 kz2 kz3 kz4 kz5 kz6 kz7 kz8 kz9 kz10
                  simp only [List.drop_succ_cons, List.drop_zero]
                  have HBO := Lib.hid (below_then HBN.out hwz)
                  clear hwz hF hD ex ey d0 d1 d2 d3 d4 d5 d6 d7 d8 d9 d10 z0 z1 z2 z3 z4 z5 z6 z7 z8 z9 z10
                  go_wp2_with fail
                  go_roundw
                  case rel => exact ⟨k + 1, by omega, by go_num, HBO.out⟩
                  case measure => simp [intOf]; omega
            · have hkn : n = k := by omega
              subst hkn
              have hk3 : ¬ (n : Int) < (n : Int) := by omega
              go_wp2_with fail
              go_roundw
              case rel => exact ⟨i + 1, by omega, by go_num, HBN.out⟩
              case measure => simp [intOf]; omega
    · have hkn : n = i := by omega
      subst hkn
      have hk2 : ¬ (n : Int) < (n : Int) := by omega
      go_wp2_with fail
      go_ret
      exact ⟨rfl, below_then HB.out HBL.out⟩

set_option maxRecDepth 100000 in
theorem lifted (os : Os) (started : os.Started) (H : Type) (enc : TypeId × Value → H) :
    ReturnsInHanded {} Try.checked os 5 .any (Rows.pastAheadSpec.pre6 enc Try.prog Try.f5 Rows.pastAheadRow.domain false) (Rows.pastAheadSpec.post enc Try.prog Try.f5 false true false false) := by
  refine returnsInHanded_of_change_sized (C := Try.checked) ownKnob_none started (by kernel_rfl) Try.func5
    (ChangeSpec.witness6 (enc := enc) (C := Try.checked) false ⟨#[], #[.slice none 0 0, .int .i64 0, .slice none 0 0], []⟩ 8 (by kernel_rfl) (by kernel_rfl) (by kernel_rfl) (by kernel_rfl)) ?_
  intro W base args ds gs before hval0 hW hcnd hsz0 _
  have hval : ∀ (j : Nat) t v, Try.f5.params[j]? = some t → args[j]? = some v → Value.okWide Try.prog W .any base t v := hval0
  have hW' := hW
  obtain ⟨p, q, hA0, hV, rfl, hfz, hnd⟩ := hW
  have hA : DataW.TrodAll enc Try.prog W 0 (fun _ => true) true Try.f5.params.toList args.toList ds p := hA0
  have hsz : (DataW.weightsEach Try.prog (Try.f5.params.toList ++ Rows.pastAheadSpec.plain.varTypes Try.prog) (ds ++ gs)).all (· ≤ reachBytes) = true := hsz0
  rw [Try.params5] at hA hval hsz
  obtain ⟨v0, vs0, d0, ds0, p0, q0, hargs, rfl, rfl, h0, r0r⟩ := trodAll_cons hA
  obtain ⟨v1, vs1, d1, ds1, p1, q1, rfl, rfl, rfl, h1, r1r⟩ := trodAll_cons r0r
  obtain ⟨v2, vs2, d2, ds2, p2, q2, rfl, rfl, rfl, h2, r2r⟩ := trodAll_cons r1r
  obtain ⟨rfl, rfl, rfl⟩ := trodAll_nil r2r
  obtain rfl : args = #[v0, v1, v2] := by cases args; simp_all
  obtain ⟨rfl, rfl⟩ := trodVars_none hV
  have g0 := sized_at hsz (j := 0) rfl rfl
  have g1 := sized_at hsz (j := 1) rfl rfl
  have g2 := sized_at hsz (j := 2) rfl rfl
  obtain ⟨y0_0, f0_0, f0_1⟩ := open_line (hval 0 23 v0 rfl rfl) h0
  obtain ⟨a1, rfl, rfl, rfl, w1⟩ := open_int Try.underlying3 (hval 1 3 v1 rfl rfl) h1
  obtain ⟨y2_0, f2_0, f2_1⟩ := open_txs (hval 2 24 v2 rfl rfl) h2
  refine (walk v0 y0_0 a1 v2 y2_0 W f0_0 f0_1 (wf_i64 w1) f2_0 f2_1).mono fun e W' ⟨he, hg⟩ => ⟨_, he, law_post laidOut (by kernel_rfl) rfl Try.underlying4 rfl rfl hW' hg⟩

theorem over : Rows.pastAheadRow.holds Try.pinned (OpenSpec.ofChange Rows.pastAheadSpec) :=
  OpenClaim.holds_of_wide 5 Try.f5 rfl rfl rfl rfl rfl rfl rfl ⟨rfl, rfl, rfl, rfl, rfl⟩ rfl rfl rfl rfl rfl (by kernel_rfl) Try.func5 (by kernel_rfl)
    (of_decide_eq_true (by kernel_rfl)) (by unfold Func.isWrapper; first | (rw [if_pos (by decide +kernel)]; kernel_rfl) | (rw [if_neg (by decide +kernel)]; exact ⟨rfl, rfl⟩))
    (fun os started H enc _ => lifted os started H enc)

/-- THE STATEMENT. -/
theorem proved : Rows.PastAheadSaid :=
  over
#print axioms proved
end Go.Proofs.Ytnolbabpkhdpmaa.pastAhead
