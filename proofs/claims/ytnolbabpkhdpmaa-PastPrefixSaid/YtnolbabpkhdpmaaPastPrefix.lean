/-
  The law PastPrefix. (printed by tools/gen_l20.py)
-/
import Derived.Test.YtnolbabpkhdpmaaN5
namespace Go.Proofs.Ytnolbabpkhdpmaa.pastPrefix
open Go.ChangeShapes Go.WideShapes Go.ChangeAt Go.RowKit Go.Sort Go.BigFrame Go.Proofs.Ytnolbabpkhdpmaa
open Go.ChangeMaps (open_string shut_string)
attribute [local irreducible] FlowW

theorem ofV_v {v : Value} {l : List Int} {d f : Int} {w : World} (hf : ofV l d = f) (h : Rd w v l.length (l.map ic)) : Calls Try.prog 10 #[v, .int .i64 d] w fun e w' => e = .returned (.int .i64 f) ∧ w = w' := hf ▸ ofV_any v l d w h
theorem few_b {va : Value} {l : List TxS} {w : World} (r : Bool) (hr : fewL 20 l = r) (ha : LRd w va l) : Calls Try.prog 8 #[va] w fun e w' => e = .returned (.bool r) ∧ Below w.heap.size w w' := hr ▸ few20_any w ha
theorem closed_b {vv vl : Value} {line : List Int} {last : Int} {l : List TxS} {w : World} (r : Bool) (hr : closedT line last l = r) (hv : Rd w vv line.length (line.map ic)) (hl : LRd w vl l) (hwr : ∀ d, -9223372036854775808 ≤ ofV line d) (hn : l.length ≤ 1000000) :
    Calls Try.prog 9 #[vv, .int .i64 last, vl] w fun e w' => e = .returned (.bool r) ∧ Below w.heap.size w w' := hr ▸ closed_any w hv hl hwr hn
theorem txsCs_take (l : List TxS) (q : Nat) : (txsCs l).take (q * 11) = txsCs (l.take q) := by
  induction q generalizing l with
  | zero => simp [txsCs]
  | succ q ih =>
    cases l with
    | nil => simp [txsCs]
    | cons a l =>
      have h1 : txsCs (a :: l) = a.cs ++ txsCs l := rfl
      have h2 : a.cs.length = 11 := rfl
      rw [h1, show (q + 1) * 11 = a.cs.length + q * 11 by rw [h2]; omega, List.take_length_add_append, ih]
      rfl
theorem lrd_mk {w : World} {v : Value} {l : List TxS} (h1 : Rd w v l.length (txsCs l)) (h2 : ∀ z ∈ l, z.Reads w) : LRd w v l := ⟨h1, h2⟩
theorem rd_ofN {w : World} {v : Value} {n m : Nat} {xs : List Value} (h : Rd w v n xs) (hm : m = n) : Rd w v m xs := hm ▸ h
theorem step_app12 {ops : Array Oper} {o : Oper} {a : Act} {K : Act → World → Prop} {Q : Exit → Act → World → Prop} {E' : Prop} {w4 w : World} {P : List TxS} {np g : Nat} {y : Value}
    (hw : Region.wanted o (yielded ops a.tmps) = true) (s x : Operand) (hop : o.op = Op.call { callee := Callee.builtin Builtin.append, args := #[s, x], argTypes := #[24, 24] })
    (hsv : a.eval s = .slice (some ⟨g, 0, none⟩) 0 0) (hxy : a.eval x = y) (hE : Ext w4 w) (hg : w4.heap.size ≤ g) (hbx : Bx w g #[] 31) (hy : Rd w y np (txsCs P)) (hn : P.length = np) (hnp : np ≤ 20)
    (hK : ∀ v' w', w'.ownsRow w4.heap.size 31 11 v' np (txsCs P) → Ext w4 w' → (∀ q cs T, q ≠ g → Bx w q cs T → Bx w' q cs T) → K (a.put o.dst v') w') :
    if Region.wanted o (yielded ops a.tmps) = true then o.wp Try.prog a w K Q else E' := by
  rw [if_pos hw]
  have hown : w.ownsRow w4.heap.size 31 11 (.slice (some ⟨g, 0, none⟩) 0 0) 0 [] := ⟨rfl, .inr ⟨_, 0, #[], rfl, hg, hbx, Nat.le_refl _, Nat.zero_le _, rfl, rfl⟩⟩
  obtain ⟨v', w', hrun, r1, r2, r3⟩ := run_app (P := Try.prog) w (ty := o.type) elTx ⟨_, elTx.ty, fun k h => by cases h⟩ hown (Src.of_rd hy (by rw [txsCs_length, hn])) (fun u hu => by obtain ⟨z, -, hz⟩ := List.mem_flatMap.1 hu; exact txsCs_one z u hz) (by unfold maxLen; omega) (by omega) hE.size
  unfold Oper.wp
  simp [execOp, hop, resolve, invoke, builtin, hsv, hxy, hrun, Result.andThen]
  rw [Nat.zero_add, List.nil_append] at r1
  exact hK _ _ r1 (below_own hE hown (Nat.le_refl _) r2) fun q cs T hq hb => bx_grown r2 hb (by simpa [Value.ownBlock] using fun h => hq h.symm)
theorem step_app18 {ops : Array Oper} {o : Oper} {a : Act} {K : Act → World → Prop} {Q : Exit → Act → World → Prop} {E' : Prop} {w4 w : World} {P : List TxS} {np q : Nat} {v : Value} {x : TxS}
    (hw : Region.wanted o (yielded ops a.tmps) = true) (s z : Operand) (hop : o.op = Op.call { callee := Callee.builtin Builtin.append, args := #[s, z], argTypes := #[24, 24] })
    (hsv : a.eval s = v) (hxy : a.eval z = .slice (some ⟨q, 0, none⟩) 1 1) (hE : Ext w4 w) (hown : w.ownsRow w4.heap.size 31 11 v np (txsCs P)) (hbx : Bx w q #[.int .i64 x.dev, .int .i64 x.seq, .int .i64 x.time, .slice x.ad x.nd x.cd, .slice x.ao x.no x.co, .slice x.ae x.ne x.ce, .bool x.fm, .slice x.ah x.nh x.ch, .int .i64 x.note, .int .i64 x.whom, .int .i64 x.upto] 31) (hnp : np ≤ 20)
    (hK : ∀ v' w', Rd w' v' (np + 1) (txsCs (P ++ [x])) → Ext w4 w' → K (a.put o.dst v') w') :
    if Region.wanted o (yielded ops a.tmps) = true then o.wp Try.prog a w K Q else E' := by
  rw [if_pos hw]
  obtain ⟨v', w', hrun, r1, r2, r3⟩ := run_app (P := Try.prog) w (ty := o.type) elTx ⟨_, elTx.ty, fun k h => by cases h⟩ hown (Src.of_rd (rd_of_bxT hbx 1 (by decide)) rfl) (fun u hu => txsCs_one x u hu) (by unfold maxLen; omega) (by omega) hE.size
  unfold Oper.wp
  simp [execOp, hop, resolve, invoke, builtin, hsv, hxy, hrun, Result.andThen]
  refine hK _ _ ?_ (below_own hE hown (Nat.le_refl _) r2)
  rw [txsCs_snoc]
  exact Rd.of_own r1
set_option maxRecDepth 100000 in
set_option maxHeartbeats 16000000 in
theorem walk (v0 : Value) (line : List Int) (last : Int) (v2 : Value) (l : List TxS) (at_ : Int) (w : World) (hv : Rd w v0 line.length (line.map ic)) (hw : ∀ d, -9223372036854775808 ≤ ofV line d) (_ : -9223372036854775808 ≤ last ∧ last ≤ 9223372036854775807) (hl : LRd w v2 l) (hbd : ∀ x ∈ l, x.Bd) (hat : 0 ≤ at_ ∧ at_ ≤ 255) :
    Calls Try.prog 3 #[v0, .int .i64 last, v2, .int .u8 at_] w fun e w' => e = .returned (.bool true) ∧ Below w.heap.size w w' := by
  obtain ⟨ga, gc, ev0, hn1v0, hn2v0, -, -⟩ := id hv
  unfold maxLen at hn2v0
  obtain ⟨m, hlm⟩ : ∃ m, line.length = m := ⟨_, rfl⟩
  rw [hlm] at ev0 hn1v0
  subst ev0
  have HLm := Lib.hid hlm
  clear hlm
  obtain ⟨la, lc, ev2, hn1v2, hn2v2, -, -⟩ := id hl.1
  unfold maxLen at hn2v2
  obtain ⟨n, hln⟩ : ∃ n, l.length = n := ⟨_, rfl⟩
  rw [hln] at ev2 hn1v2
  subst ev2
  have HLn := Lib.hid hln
  clear hln
  have HV := Lib.hid hv
  have HW := Lib.hid hw
  have HL := Lib.hid hl
  have HBD := Lib.hid hbd
  clear hv hw hl hbd
  go_enter Try.func3, Try.ntmps3
  go_wp2_with fail
  refine (awk_any _).mono ?_
  rintro e w1 ⟨rfl, hb⟩
  have HB := Lib.hid hb
  clear hb
  cases hf : fewL 20 l
  · have HF := Lib.hid hf
    clear hf
    go_wp2_with fail
    refine (few_b false HF.out (HL.out.later HB.out)).mono ?_
    rintro e wn ⟨rfl, hb⟩
    replace HB := Lib.hid (below_then HB.out hb)
    clear hb
    go_wp2_with fail
    go_ret
    exact ⟨rfl, HB.out⟩
  have HF := Lib.hid hf
  have hff := fewL_facts hf
  have hn20 : n ≤ 20 := by have := hff.1; have := HLn.out; omega
  have HFF := Lib.hid hff.2
  clear hf hff
  go_wp2_with fail
  refine (few_b true HF.out (HL.out.later HB.out)).mono ?_
  rintro e wn ⟨rfl, hb⟩
  replace HB := Lib.hid (below_then HB.out hb)
  clear hb
  by_cases hm : m ≤ 100
  case neg =>
    have hm1 : decide ((100 : Int) < (m : Int)) = true := decide_eq_true (by omega)
    have hm2 : decide (100 < m) = true := decide_eq_true (by omega)
    go_wp2_with fail
    go_ret
    exact ⟨rfl, HB.out⟩
  have hm1 : decide ((100 : Int) < (m : Int)) = false := decide_eq_false (by omega)
  have hm2 : decide (100 < m) = false := decide_eq_false (by omega)
  cases hc : closedT line last l
  · have HC := Lib.hid hc
    clear hc
    go_wp2_with fail
    refine (closed_b false HC.out (HV.out.later HB.out) (HL.out.later HB.out) HW.out (by have := HLn.out; omega)).mono ?_
    rintro e wn ⟨rfl, hb⟩
    replace HB := Lib.hid (below_then HB.out hb)
    clear hb
    go_wp2_with fail
    go_ret
    exact ⟨rfl, HB.out⟩
  have HC := Lib.hid hc
  have HCL := Lib.hid (closed_iff.1 hc)
  clear hc
  go_wp2_with fail
  refine (closed_b true HC.out (HV.out.later HB.out) (HL.out.later HB.out) HW.out (by have := HLn.out; omega)).mono ?_
  rintro e wn ⟨rfl, hb⟩
  replace HB := Lib.hid (below_then HB.out hb)
  clear hb
  clear hm1 hm2
  go_wp2_with fail
  have HB0 := HB
  clear HB
  go_loopw [10] (fun vi wr => ∃ k : Nat, k ≤ n ∧ vi = .int .i64 k ∧ Hid (∀ j : Nat, j < k → ofV line (l.getD j default).dev < (l.getD j default).seq) ∧ Hid (Below wn.heap.size wn wr)) (fun vi _ => n - (intOf vi).toNat)
  case atStart => exact ⟨0, Nat.zero_le _, by go_num, (fun j hj => absurd hj (by omega)), Below.refl _ _⟩
  case round =>
    obtain ⟨k, hk, rfl, hall, HBL⟩ := hrel
    rename World => wr
    by_cases hlt : k < n
    · have hkl : k < l.length := by have := HLn.out; omega
      have hk2 : (k : Int) < (n : Int) := by omega
      have hk0 : (0 : Int) ≤ (k : Int) := by omega
      obtain ⟨x, hx⟩ : ∃ x, l[k] = x := ⟨_, rfl⟩
      have hlr := (HL.out.later (below_then HB0.out HBL.out)).1
      rw [HLn.out] at hlr
      obtain ⟨b, oo, x1, c0, c1, -⟩ := rd_txs hlr HLn.out.symm k hkl hx
      have HX : Hid (l.getD k default = x) := by show _ = _; rw [List.getD_eq_getElem?_getD, List.getElem?_eq_getElem hkl]; simp [hx]
      obtain ⟨f, hf⟩ : ∃ f, ofV line x.dev = f := ⟨_, rfl⟩
      have HF0 := Lib.hid hf
      clear hx hf hkl hlr
      go_wp2_with fail
      refine wp_region_flow (by kernel_rfl) 13 [(11, ⟨fun v => v = .int .i64 f, fun _ _ _ _ => True⟩)] (by kernel_rfl) ?_ ?_ ?_
      · intro x hx
        simp only [List.mem_cons, List.not_mem_nil, or_false] at hx
        subst hx
        exact ⟨_, rfl⟩
      · intro x hx v lo hi w w' h hb
        simp only [List.mem_cons, List.not_mem_nil, or_false] at hx
        subst hx
        exact trivial
      · intro lo hi
        have kc0 := cell_regrown c0
        have kc1 := cell_regrown c1
        refine flowW_plain rfl ?_
        go_big_quiet_step (fail)
        refine wpQuiet_nil ?_
        refine flowW_plain rfl ?_
        go_big_quiet_step (fail)
        refine wpQuiet_nil ?_
        refine flowW_plain rfl ?_
        go_big_quiet_step (fail)
        refine wpQuiet_nil ?_
        refine flowW_plain rfl ?_
        go_big_quiet_step (fail)
        refine wpQuiet_nil ?_
        refine flowW_plain rfl ?_
        go_big_quiet_step (fail)
        refine wpQuiet_nil ?_
        refine flowW_plain rfl ?_
        go_big_quiet_step (fail)
        refine wpQuiet_nil ?_
        refine flowW_plain rfl ?_
        go_big_quiet_step (fail)
        refine wpQuiet_nil ?_
        refine flowW_plain rfl ?_
        go_big_quiet_step (fail)
        refine wpQuiet_nil ?_
        refine flowW_plain rfl ?_
        go_big_quiet_step (fail)
        refine wpQuiet_nil ?_
        refine flowW_plain rfl ?_
        go_big_quiet_step (fail)
        refine wpQuiet_nil ?_
        refine flowW_plain rfl ?_
        go_big_quiet_step (fail)
        refine wpQuiet_nil ?_
        refine flowW_call rfl rfl ?_ ?_
        · intro W hW hF K hK
          clear kc0 kc1
          go_wp2_with fail
          refine (ofV_v HF0.out (HV.out.later (below_then HB0.out (below_then HBL.out hW)))).mono ?_
          rintro e wq ⟨rfl, rfl⟩
          go_wp2_with fail
          exact hK _ _ rfl trivial (Below.refl _ _)
        rintro v rfl K hK
        go_simp
        refine hK _ ?_
        clear hK K
        refine flowW_plain rfl ?_
        go_big_quiet_step (fail)
        refine wpQuiet_nil ?_
        refine flowW_end fun wz hwz hF hD => ?_
        clear kc0 kc1
        simp only [List.drop_succ_cons, List.drop_zero]
        have HBM := Lib.hid (below_then HBL.out hwz)
        clear hwz hF hD c0 c1 x1
        by_cases hle : x.seq ≤ f
        · have hle2 : decide (x.seq ≤ f) = true := decide_eq_true hle
          go_wp2_with fail
          go_ret
          exact ⟨rfl, below_then HB0.out HBM.out⟩
        · have hle2 : decide (x.seq ≤ f) = false := decide_eq_false hle
          go_wp2_with fail
          go_roundw
          case rel => exact ⟨k + 1, by omega, by go_num, (fun j hj => by rcases Nat.lt_or_ge j k with h | h; exact hall.out j h; rw [show j = k by omega, HX.out, HF0.out]; omega), HBM.out⟩
          case measure => simp [intOf]; omega
    · have hkn : n = k := by omega
      subst hkn
      have hk2 : ¬ (n : Int) < (n : Int) := by omega
      have HAB : Hid (∀ x ∈ l, ofV line x.dev < x.seq) := fun x hx => by
        obtain ⟨j, hj, rfl⟩ := List.mem_iff_getElem.1 hx
        have := hall.out j (by have := HLn.out; omega)
        rwa [List.getD_eq_getElem?_getD, List.getElem?_eq_getElem hj] at this
      have HB := Lib.hid (below_then HB0.out HBL.out)
      clear hall HB0 HBL hlt hk
      go_wp2_with fail
      refine (ordTx_any _ (HL.out.later HB.out) (by have := HLn.out; omega)).mono ?_
      rintro e w2 ⟨vo, rfl, ho, hb⟩
      replace HB := Lib.hid (below_then HB.out hb)
      clear hb
      have hol : (ordT l).length = n := (ordT_length l).trans HLn.out
      have hor := LRd.of_own ho (fun t ht => (HL.out.2 t (ordT_mem ht)).later HB.out)
      obtain ⟨o, hoe⟩ : ∃ o, ordT l = o := ⟨_, rfl⟩
      rw [hoe] at hor hol
      obtain ⟨oa, oc, ev, hon, hom, -, -⟩ := id hor.1
      rw [hol] at ev hon
      subst ev
      unfold maxLen at hom
      have HOE := Lib.hid hoe
      have HOL := Lib.hid hol
      have HO := Lib.hid hor
      clear hol hor ho hoe
      obtain ⟨q, hq, hq2⟩ : ∃ q : Nat, at_ % ((n : Int) + 1) = (q : Int) ∧ q ≤ n := ⟨(at_ % ((n : Int) + 1)).toNat, by have := Int.emod_nonneg at_ (b := (n : Int) + 1) (by omega); omega, by have := Int.emod_lt_of_pos at_ (b := (n : Int) + 1) (by omega); have := Int.emod_nonneg at_ (b := (n : Int) + 1) (by omega); omega⟩
      have hz0 : (0 : Int) ≤ (q : Int) := by omega
      have hy0 : (q : Int) ≤ (n : Int) := by omega
      have hrO := HO.out.1
      rw [HOL.out] at hrO
      obtain ⟨ta, tc, hsl, hrd⟩ := run_part_hi elTx hrO (by rw [txsCs_length, HOL.out]) q hq2
      rw [txsCs_take] at hrd
      have htl : (o.take q).length = q := by rw [List.length_take]; have := HOL.out; omega
      have hlt2 : LRd w2 (.slice ta q tc) (o.take q) := ⟨htl.symm ▸ hrd, fun z hz => HO.out.2 z (List.mem_of_mem_take hz)⟩
      have HLT := Lib.hid hlt2
      have HTL := Lib.hid htl
      have HCT : Hid (closedT line last (o.take q) = true) := closed_iff.2 (by rw [← HOE.out]; exact HCL.out.begin HAB.out q)
      clear hrO hrd htl hlt2
      go_wp2_with fail
      refine (closed_b true HCT.out (HV.out.later HB.out) HLT.out HW.out (by rw [HTL.out]; omega)).mono ?_
      rintro e w3 ⟨rfl, hb⟩
      have HB23 := Lib.hid hb
      replace HB := Lib.hid (below_then HB.out hb)
      clear hb hsl
      by_cases hqn : q = n
      · have hq5 : ((q : Int) == (n : Int)) = true := by simp [hqn]
        have hq6 : (q == n) = true := by simp [hqn]
        clear hqn
        go_wp2_with fail
        go_ret
        exact ⟨rfl, HB.out⟩
      have hq5 : ((q : Int) == (n : Int)) = false := by simp; try omega
      have hq6 : (q == n) = false := by simp [hqn]
      have hqlt : q < n := by omega
      have hy1 : (q : Int) < (n : Int) := by omega
      clear hqn
      have hiq : q < o.length := by have := HOL.out; omega
      obtain ⟨x, hx⟩ : ∃ x, o[q] = x := ⟨_, rfl⟩
      have HMx : Hid (o[q]? = some x) := by show _ = _; rw [List.getElem?_eq_getElem hiq, hx]
      have HIx : Hid (x ∈ o) := by show _ ∈ _; rw [← hx]; exact List.getElem_mem hiq
      have HTx : Hid (o.take (q + 1) = o.take q ++ [x]) := by show _ = _; rw [List.take_succ_eq_append_getElem hiq, hx]
      have hlr := (HO.out.later HB23.out).1
      rw [HOL.out] at hlr
      obtain ⟨bbx, oox, ex, c0, c1, c2, c3, c4, c5, c6, c7, c8, c9, c10, -⟩ := rd_txs hlr HOL.out.symm q hiq hx
      clear hlr hx hiq
      have HXL : Hid (x ∈ l) := by show _ ∈ _; rw [← ordT_iff, HOE.out]; exact HIx.out
      have HXRD := Lib.hid (HL.out.2 x HXL.out)
      go_wp2_with fail
      refine (past_any (deps := x.deps) _ (HL.out.later HB.out) (HXRD.out.later HB.out).deps' (by have := HLn.out; omega)).mono ?_
      rintro e w4 ⟨vp, rfl, hP, hb⟩
      have HB24 := Lib.hid (below_then HB23.out hb)
      replace HB := Lib.hid (below_then HB.out hb)
      obtain ⟨P, hpe⟩ : ∃ P, pastT l x.deps = P := ⟨_, rfl⟩
      rw [hpe] at hP
      have hlenP : P.length ≤ n := by have := pastT_len l x.deps; rw [hpe] at this; have := HLn.out; omega
      have HEP := Lib.hid hpe
      clear hpe hb ex c0 c1 c2 c3 c4 c5 c6 c7 c8 c9 c10
      obtain ⟨pa, pc, ev, hnnp, hmnp, -, -⟩ := id hP.1
      unfold maxLen at hmnp
      obtain ⟨np, hlnp⟩ : ∃ np, P.length = np := ⟨_, rfl⟩
      rw [hlnp] at ev hnnp
      subst ev
      have HLnp := Lib.hid hlnp
      clear hlnp
      have HP := Lib.hid hP
      have HNP20 : Hid (np ≤ 20) := by show _ ≤ _; have := HLnp.out; omega
      have HNP : Hid (P.length ≤ 1000000) := by show _ ≤ _; omega
      have hPr := hP.1
      rw [HLnp.out] at hPr
      have HPR := Lib.hid hPr
      have HV4 := Lib.hid (HV.out.later HB.out)
      have HCP : Hid (closedT line last P = true) := closed_iff.2 (by rw [← HEP.out]; exact HCL.out.past HAB.out HXL.out)
      have HCX : Hid (closedT line last (P ++ [x]) = true) := closed_iff.2 (by rw [← HEP.out]; exact HCL.out.with HAB.out HXL.out)
      have HNX : Hid ((P ++ [x]).length = np + 1) := by show _ = _; rw [List.length_append, HLnp.out]; rfl
      have HXR : Hid (∀ z ∈ P ++ [x], z.Reads w4) := fun z hz => by
        rcases List.mem_append.1 hz with h | h
        · exact HP.out.2 z h
        · rw [List.mem_singleton.1 h]; exact HXRD.out.later HB.out
      clear hP hPr hlenP
      obtain ⟨hqx, hgx⟩ := List.getElem?_eq_some_iff.1 HMx.out
      have hlr := (HO.out.later HB24.out).1
      rw [HOL.out] at hlr
      obtain ⟨bbx, oox, ex, c0, c1, c2, c3, c4, c5, c6, c7, c8, c9, c10, -⟩ := rd_txs hlr HOL.out.symm q hqx hgx
      clear hlr hqx hgx
      go_wp2_with fail
      go_region_held3 (fun w' => Ext w4 w' ∧ w'.cell? ⟨bbx, oox, none⟩ = some (.int .i64 x.dev) ∧ w'.cell? ⟨bbx, oox + 1, none⟩ = some (.int .i64 x.seq) ∧ w'.cell? ⟨bbx, oox + 2, none⟩ = some (.int .i64 x.time) ∧ w'.cell? ⟨bbx, oox + 3, none⟩ = some (.slice x.ad x.nd x.cd) ∧ w'.cell? ⟨bbx, oox + 4, none⟩ = some (.slice x.ao x.no x.co) ∧ w'.cell? ⟨bbx, oox + 5, none⟩ = some (.slice x.ae x.ne x.ce) ∧ w'.cell? ⟨bbx, oox + 6, none⟩ = some (.bool x.fm) ∧ w'.cell? ⟨bbx, oox + 7, none⟩ = some (.slice x.ah x.nh x.ch) ∧ w'.cell? ⟨bbx, oox + 8, none⟩ = some (.int .i64 x.note) ∧ w'.cell? ⟨bbx, oox + 9, none⟩ = some (.int .i64 x.whom) ∧ w'.cell? ⟨bbx, oox + 10, none⟩ = some (.int .i64 x.upto)) ((refine (fun E => ⟨E, cell_later E c0, cell_later E c1, cell_later E c2, cell_later E c3, cell_later E c4, cell_later E c5, cell_later E c6, cell_later E c7, cell_later E c8, cell_later E c9, cell_later E c10⟩) ?_; first | exact (Below.refl _ _).drew | exact (by assumption) | exact below_then (Below.refl _ _).drew (by assumption) | exact below_then (below_then (Below.refl _ _).drew (by assumption)) (below_alloc _ _) | exact below_then (below_then (below_then (Below.refl _ _).drew (by assumption)) (below_alloc _ _)) (below_alloc _ _) | exact below_then (by assumption) (below_alloc _ _) | exact below_then (by assumption) (by assumption) | exact below_then (below_then (by assumption) (below_alloc _ _)) (by assumption))) ((first | (go_at_call 9; (with_reducible refine (closed_b true HCP.out (HV4.out.later (by first | exact (Below.refl _ _).drew | exact (by assumption) | exact below_then (Below.refl _ _).drew (by assumption) | exact below_then (below_then (Below.refl _ _).drew (by assumption)) (below_alloc _ _) | exact below_then (below_then (below_then (Below.refl _ _).drew (by assumption)) (below_alloc _ _)) (below_alloc _ _) | exact below_then (by assumption) (below_alloc _ _) | exact below_then (by assumption) (by assumption) | exact below_then (below_then (by assumption) (below_alloc _ _)) (by assumption))) (HP.out.later (by first | exact (Below.refl _ _).drew | exact (by assumption) | exact below_then (Below.refl _ _).drew (by assumption) | exact below_then (below_then (Below.refl _ _).drew (by assumption)) (below_alloc _ _) | exact below_then (below_then (below_then (Below.refl _ _).drew (by assumption)) (below_alloc _ _)) (below_alloc _ _) | exact below_then (by assumption) (below_alloc _ _) | exact below_then (by assumption) (by assumption) | exact below_then (below_then (by assumption) (below_alloc _ _)) (by assumption))) HW.out HNP.out).mono ?_); rintro e w' ⟨rfl, hb⟩) | (refine step_app12 (w4 := w4) (P := P) (np := np) (by rfl) (.tmp 92) (.tmp 93) (by rfl) (by rfl) (by rfl) (by first | exact (Below.refl _ _).drew | exact (by assumption) | exact below_then (Below.refl _ _).drew (by assumption) | exact below_then (below_then (Below.refl _ _).drew (by assumption)) (below_alloc _ _) | exact below_then (below_then (below_then (Below.refl _ _).drew (by assumption)) (below_alloc _ _)) (below_alloc _ _) | exact below_then (by assumption) (below_alloc _ _) | exact below_then (by assumption) (by assumption) | exact below_then (below_then (by assumption) (below_alloc _ _)) (by assumption)) (by have h0 := (below_then (Below.refl w4.heap.size w4).drew hb).size; first | exact h0 | (simp; omega)) (by first | exact bx_new rfl | exact bx_new (by simp) | exact bx_later (below_alloc _ _) (bx_new rfl)) (HPR.out.later (by first | exact (Below.refl _ _).drew | exact (by assumption) | exact below_then (Below.refl _ _).drew (by assumption) | exact below_then (below_then (Below.refl _ _).drew (by assumption)) (below_alloc _ _) | exact below_then (below_then (below_then (Below.refl _ _).drew (by assumption)) (below_alloc _ _)) (below_alloc _ _) | exact below_then (by assumption) (below_alloc _ _) | exact below_then (by assumption) (by assumption) | exact below_then (below_then (by assumption) (below_alloc _ _)) (by assumption))) HLnp.out HNP20.out ?_; intro v6 w6 own6 e6 kp6) | (refine step_app18 (w4 := w4) (P := P) (np := np) (x := x) (by rfl) (.tmp 94) (.tmp 99) (by rfl) (by rfl) (by rfl) (by first | exact (Below.refl _ _).drew | exact (by assumption) | exact below_then (Below.refl _ _).drew (by assumption) | exact below_then (below_then (Below.refl _ _).drew (by assumption)) (below_alloc _ _) | exact below_then (below_then (below_then (Below.refl _ _).drew (by assumption)) (below_alloc _ _)) (below_alloc _ _) | exact below_then (by assumption) (below_alloc _ _) | exact below_then (by assumption) (by assumption) | exact below_then (below_then (by assumption) (below_alloc _ _)) (by assumption)) (by first | exact own6 | exact own_later own6 (below_alloc _ _)) (by first | exact bx_new rfl | exact kp6 _ _ _ (by simp) (bx_new (by simp)) | exact kp6 _ _ _ (by simp) (bx_later (below_alloc _ _) (bx_new rfl))) HNP20.out ?_; intro v7 w7 r7 e7) | (go_at_call 9; (with_reducible refine (closed_b true HCX.out (HV4.out.later (by first | exact (Below.refl _ _).drew | exact (by assumption) | exact below_then (Below.refl _ _).drew (by assumption) | exact below_then (below_then (Below.refl _ _).drew (by assumption)) (below_alloc _ _) | exact below_then (below_then (below_then (Below.refl _ _).drew (by assumption)) (below_alloc _ _)) (below_alloc _ _) | exact below_then (by assumption) (below_alloc _ _) | exact below_then (by assumption) (by assumption) | exact below_then (below_then (by assumption) (below_alloc _ _)) (by assumption))) (lrd_mk (rd_ofN r7 HNX.out) (fun z hz => (HXR.out z hz).later (by first | exact (Below.refl _ _).drew | exact (by assumption) | exact below_then (Below.refl _ _).drew (by assumption) | exact below_then (below_then (Below.refl _ _).drew (by assumption)) (below_alloc _ _) | exact below_then (below_then (below_then (Below.refl _ _).drew (by assumption)) (below_alloc _ _)) (below_alloc _ _) | exact below_then (by assumption) (below_alloc _ _) | exact below_then (by assumption) (by assumption) | exact below_then (below_then (by assumption) (below_alloc _ _)) (by assumption)))) HW.out (by rw [HNX.out]; have := HNP20.out; omega)).mono ?_); rintro e w' ⟨rfl, hb⟩)))
      all_goals
        go_wp2_with fail
        go_ret
        exact ⟨rfl, by first | exact below_then HB.out (by assumption) | exact below_then HB.out (below_then (by assumption) (by assumption))⟩

set_option maxRecDepth 100000 in
theorem lifted (os : Os) (started : os.Started) (H : Type) (enc : TypeId × Value → H) :
    ReturnsInHanded {} Try.checked os 3 .any (Rows.pastPrefixSpec.pre6 enc Try.prog Try.f3 Rows.pastPrefixRow.domain false) (Rows.pastPrefixSpec.post enc Try.prog Try.f3 false true false false) := by
  refine returnsInHanded_of_change_sized (C := Try.checked) ownKnob_none started (by kernel_rfl) Try.func3
    (ChangeSpec.witness6 (enc := enc) (C := Try.checked) false ⟨#[], #[.slice none 0 0, .int .i64 0, .slice none 0 0, .int .u8 0], []⟩ 8 (by kernel_rfl) (by kernel_rfl) (by kernel_rfl) (by kernel_rfl)) ?_
  intro W base args ds gs before hval0 hW hcnd hsz0 _
  have hval : ∀ (j : Nat) t v, Try.f3.params[j]? = some t → args[j]? = some v → Value.okWide Try.prog W .any base t v := hval0
  have hW' := hW
  obtain ⟨p, q, hA0, hV, rfl, hfz, hnd⟩ := hW
  have hA : DataW.TrodAll enc Try.prog W 0 (fun _ => true) true Try.f3.params.toList args.toList ds p := hA0
  have hsz : (DataW.weightsEach Try.prog (Try.f3.params.toList ++ Rows.pastPrefixSpec.plain.varTypes Try.prog) (ds ++ gs)).all (· ≤ reachBytes) = true := hsz0
  rw [Try.params3] at hA hval hsz
  obtain ⟨v0, vs0, d0, ds0, p0, q0, hargs, rfl, rfl, h0, r0r⟩ := trodAll_cons hA
  obtain ⟨v1, vs1, d1, ds1, p1, q1, rfl, rfl, rfl, h1, r1r⟩ := trodAll_cons r0r
  obtain ⟨v2, vs2, d2, ds2, p2, q2, rfl, rfl, rfl, h2, r2r⟩ := trodAll_cons r1r
  obtain ⟨v3, vs3, d3, ds3, p3, q3, rfl, rfl, rfl, h3, r3r⟩ := trodAll_cons r2r
  obtain ⟨rfl, rfl, rfl⟩ := trodAll_nil r3r
  obtain rfl : args = #[v0, v1, v2, v3] := by cases args; simp_all
  obtain ⟨rfl, rfl⟩ := trodVars_none hV
  have g0 := sized_at hsz (j := 0) rfl rfl
  have g1 := sized_at hsz (j := 1) rfl rfl
  have g2 := sized_at hsz (j := 2) rfl rfl
  have g3 := sized_at hsz (j := 3) rfl rfl
  obtain ⟨y0_0, f0_0, f0_1⟩ := open_line (hval 0 23 v0 rfl rfl) h0
  obtain ⟨a1, rfl, rfl, rfl, w1⟩ := open_int Try.underlying3 (hval 1 3 v1 rfl rfl) h1
  obtain ⟨y2_0, f2_0, f2_1⟩ := open_txs (hval 2 24 v2 rfl rfl) h2
  obtain ⟨a3, rfl, rfl, rfl, w3⟩ := open_int Try.underlying5 (hval 3 5 v3 rfl rfl) h3
  refine (walk v0 y0_0 a1 v2 y2_0 a3 W f0_0 f0_1 (wf_i64 w1) f2_0 f2_1 (wf_u8T w3)).mono fun e W' ⟨he, hg⟩ => ⟨_, he, law_post laidOut (by kernel_rfl) rfl Try.underlying4 rfl rfl hW' hg⟩

theorem over : Rows.pastPrefixRow.holds Try.pinned (OpenSpec.ofChange Rows.pastPrefixSpec) :=
  OpenClaim.holds_of_wide 3 Try.f3 rfl rfl rfl rfl rfl rfl rfl ⟨rfl, rfl, rfl, rfl, rfl⟩ rfl rfl rfl rfl rfl (by kernel_rfl) Try.func3 (by kernel_rfl)
    (of_decide_eq_true (by kernel_rfl)) (by unfold Func.isWrapper; first | (rw [if_pos (by decide +kernel)]; kernel_rfl) | (rw [if_neg (by decide +kernel)]; exact ⟨rfl, rfl⟩))
    (fun os started H enc _ => lifted os started H enc)

/-- THE STATEMENT. -/
theorem proved : Rows.PastPrefixSaid :=
  over
#print axioms proved
end Go.Proofs.Ytnolbabpkhdpmaa.pastPrefix
