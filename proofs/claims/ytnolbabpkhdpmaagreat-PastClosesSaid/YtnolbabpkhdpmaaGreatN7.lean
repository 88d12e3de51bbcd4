/-
  Layer 20 (past): the document's at, Right, Order, Past, Time, Known. (printed by tools/gen_r20.py)
-/
import Derived.Test.YtnolbabpkhdpmaaGreatN6
import Derived.Test.YtnolbabpkhdpmaaGreatTR
namespace Go.Proofs.YtnolbabpkhdpmaaGreat
open Go.RowKit Go.Sort Go.Shelf Go.BigFrame
attribute [local irreducible] FlowW

theorem refOfV_f {a : Option Addr} {m c : Nat} {l : List Int} {d f : Int} {w : World} (hm : l.length = m) (hf : ofV l d = f) (h : Rd w (.slice a l.length c) l.length (l.map ic)) : Calls Tryz.prog 27 #[.slice a m c, .int .i64 d] w fun e w' => e = .returned (.int .i64 f) ∧ w = w' := by
  subst hm hf
  exact refOfV_any _ l d w h
theorem findD_app {d q : Int} : ∀ {l m : List TxS}, findD d q l = none → findD d q (l ++ m) = findD d q m
  | [], _, _ => rfl
  | x :: l, m, h => by
    unfold findD at h
    rw [List.cons_append]
    by_cases hh : (d == x.dev && q == x.seq) = true
    · rw [if_pos hh] at h; cases h
    · rw [if_neg hh] at h
      show (if (d == x.dev && q == x.seq) = true then some x else findD d q (l ++ m)) = _
      rw [if_neg hh]
      exact findD_app h
theorem findD_cons {d q : Int} {x : TxS} {l : List TxS} (h1 : x.dev = d) (h2 : x.seq = q) : findD d q (x :: l) = some x := by
  unfold findD
  rw [if_pos (by simp [h1, h2])]
theorem findD_ne {d q : Int} {x : TxS} (h : ¬ (x.dev = d ∧ x.seq = q)) : findD d q [x] = none := by
  unfold findD
  rw [if_neg fun hh => h (by simp at hh; exact ⟨hh.1.symm, hh.2.symm⟩)]; rfl
/-- Where the first one with a dot is. -/
def AtP (l : List TxS) (d q r : Int) : Prop := (findD d q l = none ∧ r = -1) ∨ ∃ (k : Nat) (x : TxS), r = (k : Int) ∧ l[k]? = some x ∧ findD d q l = some x ∧ findD d q (l.take k) = none
def AtPost (l : List TxS) (d q : Int) (w : World) (e : Ending) (w' : World) : Prop := ∃ r, AtP l d q r ∧ e = .returned (.int .i64 r) ∧ w = w'
set_option maxRecDepth 100000 in
set_option maxHeartbeats 8000000 in
theorem refAt_any {vl : Value} {l : List TxS} {d q : Int} (w : World) (hl : LRd w vl l) : Calls Tryz.prog 26 #[vl, .int .i64 d, .int .i64 q] w (AtPost l d q w) := by
  obtain ⟨la, lc, rfl, hnc, hcm, -, -⟩ := id hl.1
  unfold maxLen at hcm
  obtain ⟨n, hln⟩ : ∃ n, l.length = n := ⟨_, rfl⟩
  have HL := Lib.hid hl
  have HLN := Lib.hid hln
  rw [hln] at hnc ⊢
  clear hl hln
  go_enter Tryz.func26, Tryz.ntmps26
  go_wp2_with fail
  go_loop [7] (fun vi => ∃ k : Nat, k ≤ n ∧ vi = .int .i64 k ∧ Hid (findD d q (l.take k) = none)) (fun vi => n - (intOf vi).toNat)
  case atStart => exact ⟨0, Nat.zero_le _, by go_num, (by show findD d q [] = none; rfl)⟩
  case round =>
    obtain ⟨k, hk, rfl, hno⟩ := hrel
    by_cases hlt : k < n
    · have hkl : k < l.length := by have := HLN.out; omega
      have hk2 : (k : Int) < (n : Int) := by omega
      have hk0 : (0 : Int) ≤ (k : Int) := by omega
      obtain ⟨x, hx⟩ : ∃ x, l[k]'hkl = x := ⟨_, rfl⟩
      have hlr := (HL.out.later (Below.refl w.heap.size w)).1
      rw [HLN.out] at hlr
      obtain ⟨bx, ox, ex, c0, c1, c2, c3, c4, c5, c6, c7, c8, c9, c10, -⟩ := rd_txs hlr HLN.out.symm k hkl hx
      have HTx : Hid (l.take (k + 1) = l.take k ++ [x]) := by show _ = _; rw [List.take_succ_eq_append_getElem hkl, hx]
      have HGx : Hid (l[k]? = some x) := by show _ = _; rw [List.getElem?_eq_getElem hkl, hx]
      have HIx : Hid (x ∈ l) := by show _ ∈ _; rw [← hx]; exact List.getElem_mem hkl
      clear hlr hx
      cases h1 : (x.dev == d)
      · have HNN : Hid (findD d q (l.take (k + 1)) = none) := by show _ = _; rw [HTx.out, findD_app hno.out]; exact findD_ne fun hh => by simp [hh.1] at h1
        go_wp2_with fail
        go_round
        case rel => exact ⟨k + 1, by omega, by go_num, HNN.out⟩
        case measure => simp [intOf]; omega
      cases h2 : (x.seq == q)
      · have HNN : Hid (findD d q (l.take (k + 1)) = none) := by show _ = _; rw [HTx.out, findD_app hno.out]; exact findD_ne fun hh => by simp [hh.2] at h2
        go_wp2_with fail
        go_round
        case rel => exact ⟨k + 1, by omega, by go_num, HNN.out⟩
        case measure => simp [intOf]; omega
      · have HFF : Hid (findD d q l = some x) := by
          show _ = _
          rw [← List.take_append_drop (k + 1) l, HTx.out, List.append_assoc, findD_app hno.out]
          exact findD_cons (eq_of_beq h1) (eq_of_beq h2)
        go_wp2_with fail
        go_ret
        exact ⟨_, .inr ⟨k, x, rfl, HGx.out, HFF.out, hno.out⟩, rfl, rfl⟩
    · have hkn : n = k := by omega
      subst hkn
      have hk2 : ¬ (n : Int) < (n : Int) := by omega
      have hend := hno.out
      rw [List.take_of_length_le (by have := HLN.out; omega)] at hend
      have HE := Lib.hid hend
      clear hend
      go_wp2_with fail
      go_ret
      exact ⟨-1, .inl ⟨HE.out, rfl⟩, rfl, rfl⟩
set_option maxRecDepth 100000 in
set_option maxHeartbeats 8000000 in
theorem refVecRight_any {v : Value} {l : List Int} (w : World) (h : Rd w v l.length (l.map ic)) : Calls Tryz.prog 25 #[v] w fun e w' => e = .returned (.bool (rightVec l)) ∧ w = w' := by
  obtain ⟨ao, c, rfl, hnc, hcm, -, -⟩ := id h
  obtain ⟨n, hln⟩ : ∃ n, l.length = n := ⟨_, rfl⟩
  rw [hln] at h hnc ⊢
  unfold maxLen at hcm
  have HR := Lib.hid h
  have HLN := Lib.hid hln
  clear h hln
  go_enter Tryz.func25, Tryz.ntmps25
  go_wp2_with fail
  go_loop [3] (fun vi => ∃ k : Nat, k ≤ n ∧ vi = .int .i64 k ∧ Hid (∀ y ∈ l.take k, badI y = false)) (fun vi => n - (intOf vi).toNat)
  case atStart => exact ⟨0, Nat.zero_le _, by go_num, (fun y hy => by simp at hy)⟩
  case round =>
    obtain ⟨k, hk, rfl, hall⟩ := hrel
    by_cases hlt : k < n
    · have hkl : k < l.length := by have := HLN.out; omega
      have hk2 : (k : Int) < (n : Int) := by omega
      have hk0 : (0 : Int) ≤ (k : Int) := by omega
      obtain ⟨A, x1, c0, -⟩ := rd_one elVec ic HR.out HLN.out.symm k hkl
      obtain ⟨y, hy⟩ : ∃ y, l[k] = y := ⟨_, rfl⟩
      rw [hy] at c0
      have HTY : Hid (l.take (k + 1) = l.take k ++ [y]) := by show _ = _; rw [List.take_succ_eq_append_getElem hkl, hy]
      have HBAD : Hid (badI y = true → rightVec l = false) := fun hb => by
        unfold rightVec
        rw [List.any_eq_true.2 ⟨y, hy ▸ List.getElem_mem hkl, hb⟩]; simp
      clear hy
      cases h1 : decide (y < 0)
      · cases h2 : decide (1048576 < y)
        · have HG : Hid (badI y = false) := by show _ = _; unfold badI; rw [h1, h2]; rfl
          go_wp2_with fail
          go_round
          case rel => exact ⟨k + 1, by omega, by go_num, (by show ∀ _, _; rw [HTY.out]; intro z hz; rcases List.mem_append.1 hz with hz | hz; exact hall.out z hz; rw [List.mem_singleton.1 hz]; exact HG.out)⟩
          case measure => simp [intOf]; omega
        · have HG : Hid (badI y = true) := by show _ = _; unfold badI; rw [h1, h2]; rfl
          go_wp2_with fail
          go_ret
          exact ⟨ret_bool (HBAD.out HG.out).symm, rfl⟩
      · have HG : Hid (badI y = true) := by show _ = _; unfold badI; rw [h1]; rfl
        go_wp2_with fail
        go_ret
        exact ⟨ret_bool (HBAD.out HG.out).symm, rfl⟩
    · have hkn : n = k := by omega
      subst hkn
      have hk2 : ¬ (n : Int) < (n : Int) := by omega
      obtain ⟨u, hu⟩ : ∃ u, decide ((n : Int) ≤ 64) = u := ⟨_, rfl⟩
      have HU : Hid (rightVec l = u) := by
        have hend := hall.out
        rw [List.take_of_length_le (by have := HLN.out; omega)] at hend
        show _ = _
        unfold rightVec
        rw [List.any_eq_false.2 (fun y hy => by rw [hend y hy]; simp), HLN.out, ← hu]
        simp
        omega
      clear hall
      go_wp2_with fail
      go_ret
      exact ⟨ret_bool HU.out.symm, rfl⟩
set_option maxRecDepth 100000 in
set_option maxHeartbeats 8000000 in
theorem refOrdTx_any {vl : Value} {l : List TxS} (w : World) (hl : LRd w vl l) (hn : l.length ≤ 1000000) : Calls Tryz.prog 95 #[vl] w (OrdP w l) := by
  obtain ⟨la, lc, rfl, hnc, hcm, -, -⟩ := id hl.1
  unfold maxLen at hcm
  obtain ⟨n, hln⟩ : ∃ n, l.length = n := ⟨_, rfl⟩
  have HL := Lib.hid hl
  have HLN := Lib.hid hln
  rw [hln] at hnc hn ⊢
  clear hl hln
  go_enter Tryz.func95, Tryz.ntmps95
  go_wp2_with fail
  go_loopw [3, 4] (fun va vi wr => ∃ k : Nat, k ≤ n ∧ vi = .int .i64 k ∧ Hid (wr.ownsRow w.heap.size 83 3 va k (stCs ((l.take k).map TxS.st))) ∧ Hid (Below w.heap.size w wr)) (fun _ vi _ => n - (intOf vi).toNat)
  case atStart => exact ⟨0, Nat.zero_le _, by go_num, World.ownsRow_nil w _ _ _, Below.refl _ _⟩
  case round =>
    obtain ⟨k, hk, rfl, hown, HB⟩ := hrel
    rename World => wr
    by_cases hlt : k < n
    · have hkl : k < l.length := by have := HLN.out; omega
      have hk2 : (k : Int) < (n : Int) := by omega
      obtain ⟨x, hx⟩ : ∃ x, l[k] = x := ⟨_, rfl⟩
      obtain ⟨b, oo, x1, c0, c1, c2, c3, c4, c5, c6, c7, c8, c9, c10, _⟩ := rd_txs ((HL.out.later HB.out).1) rfl k hkl hx
      rw [HLN.out] at x1
      have hnx : stCs ((l.take (k + 1)).map TxS.st) = stCs ((l.take k).map TxS.st) ++ x.st.cs := by rw [List.take_succ_eq_append_getElem hkl, hx, List.map_append]; exact stCs_snocT _ _
      have HNX := Lib.hid hnx
      clear hnx hx
      have HB3 := HB
      have HO3 := hown
      clear hown
      go_wp2_with fail
      refine (refStamp_any _).mono ?_
      rintro e w4 ⟨rfl, hb4⟩
      have HB4 := Lib.hid (below_then HB3.out hb4)
      have hown4 := own_later HO3.out hb4
      have hbs := HB4.out.size
      clear hb4 x1 c0 c1 c2 c3 c4 c5 c6 c7 c8 c9 c10
      go_wp2_with (at_builtin; refine wpList_push elSt rfl _ _ rfl rfl rfl hown4 rfl rfl (by unfold maxLen; omega) (by omega) hbs ?_; intro v5 w5 hown5 hgrow5 hblk5)
      have HB5 := Lib.hid (below_own HB4.out hown4 (Nat.le_refl _) hgrow5)
      have HO5 : Hid (w5.ownsRow w.heap.size 83 3 v5 (k + 1) (stCs ((l.take (k + 1)).map TxS.st))) := by show World.ownsRow _ _ _ _ _ _ _; rw [HNX.out]; exact hown5
      clear hown4 hown5 hgrow5 hblk5
      go_wp2_with fail
      go_roundw
      case rel => exact ⟨k + 1, by omega, by go_num, HO5.out, HB5.out⟩
      case measure => simp [intOf]; omega
    · have hkn : n = k := by omega
      subst hkn
      have hk2 : ¬ (n : Int) < (n : Int) := by omega
      have hr := Rd.of_own hown.out
      have hst : (l.take n).map TxS.st = l.map TxS.st := by rw [List.take_of_length_le (by have := HLN.out; omega)]
      rw [hst] at hr
      have hsl : (l.map TxS.st).length = n := by rw [List.length_map]; exact HLN.out
      obtain ⟨sa, sc, rfl, _⟩ := id hr
      have HR := Lib.hid hr
      have HSL := Lib.hid hsl
      clear hr hst hsl hown
      go_wp2_with fail
      refine (refOrder_any _ (l.map TxS.st) _ (HSL.out ▸ HR.out) (by rw [HSL.out]; exact hn)).mono ?_
      rintro e w2 ⟨ov, rfl, hov, hb2⟩
      rw [HSL.out] at hov
      obtain ⟨oa, oc, rfl, hoc, hom, -, -⟩ := id hov
      unfold maxLen at hom
      have HV := Lib.hid hov
      have HB2 := Lib.hid (below_then HB.out hb2)
      have HOL : Hid ((orderL (l.map TxS.st)).length = n) := (orderL_length _).trans HSL.out
      clear hov hb2 HR HB
      go_wp2_with fail
      go_loopw [6, 7] (fun va vi wq => ∃ k : Nat, k ≤ n ∧ vi = .int .i64 k ∧ Hid (wq.ownsRow w2.heap.size 31 11 va k (txsCs ((ordT l).take k))) ∧ Hid (Below w2.heap.size w2 wq)) (fun _ vi _ => n - (intOf vi).toNat)
      case atStart => exact ⟨0, Nat.zero_le _, by go_num, World.ownsRow_nil w2 _ _ _, Below.refl _ _⟩
      case round =>
        obtain ⟨k, hk, rfl, hown, HB⟩ := hrel
        rename World => wq
        by_cases hlt : k < n
        · have hkl : k < (orderL (l.map TxS.st)).length := by have := HOL.out; omega
          have hk3 : (k : Int) < (n : Int) := by omega
          obtain ⟨A, x1, c0, _⟩ := rd_one elInts ic (HV.out.later HB.out) HOL.out.symm k hkl
          obtain ⟨z, hz⟩ : ∃ z, (orderL (l.map TxS.st))[k] = z := ⟨_, rfl⟩
          have hzm := orderL_mem (hz ▸ List.getElem_mem hkl)
          rw [HSL.out] at hzm
          rw [hz] at c0
          obtain ⟨j, rfl⟩ : ∃ j : Nat, z = (j : Int) := ⟨z.toNat, by omega⟩
          have hjl : j < l.length := by have := HLN.out; omega
          obtain ⟨x, hx⟩ : ∃ x, l[j] = x := ⟨_, rfl⟩
          obtain ⟨b, oo, x2, d0, d1, d2, d3, d4, d5, d6, d7, d8, d9, d10, _⟩ := rd_txs ((HL.out.later (below_then HB2.out HB.out)).1) rfl j hjl hx
          rw [HLN.out] at x2
          have hnx : txsCs ((ordT l).take (k + 1)) = txsCs ((ordT l).take k) ++ x.cs := by
            rw [List.take_succ_eq_append_getElem (by rw [ordT_length]; have := HLN.out; omega), txsCs_snoc]
            congr 2
            simp only [ordT, List.getElem_map, hz]
            rw [List.getD_eq_getElem?_getD, List.getElem?_eq_getElem (by omega)]
            simp [hx]
          have HNX := Lib.hid hnx
          have hown4 := hown.out
          have hbs := HB.out.size
          have hj0 : (0 : Int) ≤ (j : Int) := by omega
          have hjn : (j : Int) < (n : Int) := by omega
          clear hnx hx hz hzm hown
          go_wp2_with (at_builtin; refine wpList_push (cs := #[.int .i64 x.dev, .int .i64 x.seq, .int .i64 x.time, .slice x.ad x.nd x.cd, .slice x.ao x.no x.co, .slice x.ae x.ne x.ce, .bool x.fm, .slice x.ah x.nh x.ch, .int .i64 x.note, .int .i64 x.whom, .int .i64 x.upto]) elTx rfl _ _ rfl rfl rfl hown4 rfl rfl (by unfold maxLen; omega) (by omega) hbs ?_; intro v5 w5 hown5 hgrow5 hblk5)
          have HB5 := Lib.hid (below_own HB.out hown4 (Nat.le_refl _) hgrow5)
          have HO5 : Hid (w5.ownsRow w2.heap.size 31 11 v5 (k + 1) (txsCs ((ordT l).take (k + 1)))) := by show World.ownsRow _ _ _ _ _ _ _; rw [HNX.out]; exact hown5
          clear hown4 hown5 hgrow5 hblk5 c0 x1 x2 d0 d1 d2 d3 d4 d5 d6 d7 d8 d9 d10
          go_wp2_with fail
          go_roundw
          case rel => exact ⟨k + 1, by omega, by go_num, HO5.out, HB5.out⟩
          case measure => simp [intOf]; omega
        · have hkn : n = k := by omega
          subst hkn
          have hk3 : ¬ (n : Int) < (n : Int) := by omega
          have hE := hown.out
          rw [List.take_of_length_le (by rw [ordT_length]; have := HLN.out; omega)] at hE
          have HE := Lib.hid hE
          clear hown hE
          go_wp2_with fail
          go_ret
          refine ⟨_, rfl, ?_, below_then HB2.out HB.out⟩
          unfold OwnT
          rw [ordT_length, HLN.out]
          exact own_monoT HE.out HB2.out.size
theorem refHas_b {v : Value} {l : List Int} {d q : Int} {w : World} (r : Bool) (hr : hasV l ⟨d, q⟩ = r) (h : Rd w v l.length (l.map ic)) : Calls Tryz.prog 96 #[v, .agg #[.int .i64 d, .int .i64 q]] w fun e w' => e = .returned (.bool r) ∧ Below w.heap.size w w' := hr ▸ refHasV_any v l ⟨d, q⟩ w h
set_option maxRecDepth 100000 in
set_option maxHeartbeats 8000000 in
theorem refPast_any {dev seq time note whom upto : Int} {fm : Bool} {ad ao ae ah : Option Addr} {nd cd no co ne ce nh ch : Nat} {deps : List Int} {vl : Value} {l : List TxS} (w : World) (hl : LRd w vl l) (hd : Rd w (.slice ad nd cd) deps.length (deps.map ic)) (hn : l.length ≤ 1000000) :
    Calls Tryz.prog 76 #[vl, .agg #[.int .i64 dev, .int .i64 seq, .int .i64 time, .slice ad nd cd, .slice ao no co, .slice ae ne ce, .bool fm, .slice ah nh ch, .int .i64 note, .int .i64 whom, .int .i64 upto]] w (LPost w (pastT l deps)) := by
  obtain ⟨w1, hw1⟩ : ∃ w1, w.alloc (.cells #[.int .i64 dev, .int .i64 seq, .int .i64 time, .slice ad nd cd, .slice ao no co, .slice ae ne ce, .bool fm, .slice ah nh ch, .int .i64 note, .int .i64 whom, .int .i64 upto] 31) = w1 := ⟨_, rfl⟩
  have hbw1 : Below w.heap.size w w1 := by rw [← hw1]; exact below_alloc _ _
  have bw1 : Bx w1 w.heap.size #[.int .i64 dev, .int .i64 seq, .int .i64 time, .slice ad nd cd, .slice ao no co, .slice ae ne ce, .bool fm, .slice ah nh ch, .int .i64 note, .int .i64 whom, .int .i64 upto] 31 := by rw [← hw1]; exact bx_new rfl
  have Hw1 := Lib.hid hw1
  have HX := Lib.hid bw1
  have HB1 := Lib.hid hbw1
  have HL := Lib.hid (hl.later hbw1)
  have HL0 := Lib.hid hl
  have HD0 := Lib.hid (hd.later hbw1)
  have HNL := Lib.hid hn
  obtain ⟨la, lc, rfl, -⟩ := id hl.1
  clear hl hd hw1 hbw1 bw1 hn
  go_enter Tryz.func76, Tryz.ntmps76
  go_upto_region 1 with fail
  rw [Hw1.out]
  go_wp2_with fail
  refine (refOrdTx_any _ HL.out HNL.out).mono ?_
  rintro e w2 ⟨v2, rfl, ho2, hb2⟩
  obtain ⟨o, hoe⟩ : ∃ o, ordT l = o := ⟨_, rfl⟩
  rw [hoe] at ho2
  have HOE := Lib.hid hoe
  have hro := Rd.of_own ho2
  obtain ⟨oa, oc, ev, hon, hom, -, -⟩ := id hro
  unfold maxLen at hom
  obtain ⟨n, hln⟩ : ∃ n, o.length = n := ⟨_, rfl⟩
  rw [hln] at ev hon
  subst ev
  have hn1 : n ≤ 1000000 := by rw [← hln, ← hoe, ordT_length]; exact HNL.out
  have HLN := Lib.hid hln
  have HB2 := Lib.hid hb2
  have hor : LRd w2 (.slice oa n oc) o := ⟨hro, fun t ht => (HL0.out.2 t (by rw [← hoe] at ht; exact ordT_mem ht)).later (below_then HB1.out hb2)⟩
  have HO := Lib.hid hor
  have HD := Lib.hid (HD0.out.later hb2)
  have HX2 := Lib.hid (bx_later hb2 HX.out)
  clear ho2 hoe hro hln hb2 hor
  go_wp2_with fail
  go_loopw [6, 7] (fun va vi wr => ∃ k : Nat, k ≤ n ∧ vi = .int .i64 k ∧ Hid (wr.ownsRow w2.heap.size 31 11 va ((o.take k).filter fun x => hasV deps x.dot).length (txsCs ((o.take k).filter fun x => hasV deps x.dot))) ∧ Hid (Below w2.heap.size w2 wr)) (fun _ vi _ => n - (intOf vi).toNat)
  case atStart => exact ⟨0, Nat.zero_le _, by go_num, World.ownsRow_nil w2 _ _ _, Below.refl _ _⟩
  case round =>
    obtain ⟨k, hk, rfl, hown, HB⟩ := hrel
    rename World => wr
    by_cases hlt : k < n
    · have hkl : k < o.length := by have := HLN.out; omega
      have hk2 : (k : Int) < (n : Int) := by omega
      have hk0 : (0 : Int) ≤ (k : Int) := by omega
      obtain ⟨x, hx⟩ : ∃ x, o[k]'hkl = x := ⟨_, rfl⟩
      have hlr := (HO.out.later HB.out).1
      rw [HLN.out] at hlr
      obtain ⟨bx, ox, ex, c0, c1, c2, c3, c4, c5, c6, c7, c8, c9, c10, -⟩ := rd_txs hlr HLN.out.symm k hkl hx
      have HTx : Hid (o.take (k + 1) = o.take k ++ [x]) := by show _ = _; rw [List.take_succ_eq_append_getElem hkl, hx]
      have HGx : Hid (o[k]? = some x) := by show _ = _; rw [List.getElem?_eq_getElem hkl, hx]
      have HIx : Hid (x ∈ o) := by show _ ∈ _; rw [← hx]; exact List.getElem_mem hkl
      clear hlr hx
      obtain ⟨r, hr⟩ : ∃ r, hasV deps ⟨x.dev, x.seq⟩ = r := ⟨_, rfl⟩
      have HR := Lib.hid hr
      clear hr
      have p3 := cell_of_box (bx_later HB.out HX2.out) 3 rfl
      go_wp2_with fail
      refine wp_region_flow (by kernel_rfl) 9 [(6, ⟨fun v => v = .agg #[.int .i64 x.dev, .int .i64 x.seq], fun _ _ _ _ => True⟩), (7, ⟨fun v => v = .bool r, fun _ _ _ _ => True⟩)] (by kernel_rfl) ?_ ?_ ?_
      · intro x hx
        simp only [List.mem_cons, List.not_mem_nil, or_false] at hx
        rcases hx with rfl | rfl
        · exact ⟨_, rfl⟩
        · exact ⟨_, rfl⟩
      · intro x hx v lo hi w w' h hb
        simp only [List.mem_cons, List.not_mem_nil, or_false] at hx
        rcases hx with rfl | rfl
        · exact trivial
        · exact trivial
      · intro lo hi
        have kp3 := cell_regrown p3
        have kc0 := cell_regrown c0
        have kc1 := cell_regrown c1
        have kc2 := cell_regrown c2
        have kc3 := cell_regrown c3
        have kc4 := cell_regrown c4
        have kc5 := cell_regrown c5
        have kc6 := cell_regrown c6
        have kc7 := cell_regrown c7
        have kc8 := cell_regrown c8
        have kc9 := cell_regrown c9
        have kc10 := cell_regrown c10
        refine flowW_plain rfl ?_
        go_big_quiet_step (fail)
        refine wpQuiet_nil ?_
        refine flowW_plain rfl ?_
        go_big_quiet_step (fail)
        refine wpQuiet_nil ?_
        refine flowW_plain rfl ?_
        go_big_quiet_step (fail)
        refine wpQuiet_nil ?_
        refine flowW_plain rfl ?_
        go_big_quiet_step (fail)
        refine wpQuiet_nil ?_
        refine flowW_plain rfl ?_
        go_big_quiet_step (fail)
        refine wpQuiet_nil ?_
        refine flowW_plain rfl ?_
        go_big_quiet_step (fail)
        refine wpQuiet_nil ?_
        refine flowW_call rfl rfl ?_ ?_
        · intro W hW hF K hK
          clear kp3 kc0 kc1 kc2 kc3 kc4 kc5 kc6 kc7 kc8 kc9 kc10
          go_wp2_with fail
          refine (refDot_any _).mono ?_
          rintro e wq ⟨rfl, hbq⟩
          go_wp2_with fail
          exact hK _ _ rfl trivial hbq
        rintro v rfl K hK
        go_simp
        refine hK _ ?_
        clear hK K
        refine flowW_call rfl rfl ?_ ?_
        · intro W hW hF K hK
          clear kp3 kc0 kc1 kc2 kc3 kc4 kc5 kc6 kc7 kc8 kc9 kc10
          go_wp2_with fail
          refine (refHas_b r HR.out (HD.out.later (below_then HB.out hW))).mono ?_
          rintro e wq ⟨rfl, hbq⟩
          go_wp2_with fail
          exact hK _ _ rfl trivial hbq
        rintro v rfl K hK
        go_simp
        refine hK _ ?_
        clear hK K
        refine flowW_plain rfl ?_
        go_big_quiet_step (fail)
        refine wpQuiet_nil ?_
        refine flowW_end fun w4 hw4 hF hD => ?_
        clear kp3 kc0 kc1 kc2 kc3 kc4 kc5 kc6 kc7 kc8 kc9 kc10
        simp only [List.drop_succ_cons, List.drop_zero]
        have HB4 := Lib.hid (below_then HB.out hw4)
        have hown4 := own_later hown.out hw4
        replace c0 := cell_later hw4 c0
        replace c1 := cell_later hw4 c1
        replace c2 := cell_later hw4 c2
        replace c3 := cell_later hw4 c3
        replace c4 := cell_later hw4 c4
        replace c5 := cell_later hw4 c5
        replace c6 := cell_later hw4 c6
        replace c7 := cell_later hw4 c7
        replace c8 := cell_later hw4 c8
        replace c9 := cell_later hw4 c9
        replace c10 := cell_later hw4 c10
        have hbs := HB4.out.size
        have hfl : ((o.take k).filter fun x => hasV deps x.dot).length ≤ k := Nat.le_trans (List.length_filter_le _ _) (by rw [List.length_take]; omega)
        clear hw4 hF hD p3
        cases r
        · have HS : Hid (((o.take (k + 1)).filter fun x => hasV deps x.dot) = (o.take k).filter fun x => hasV deps x.dot) := by
            show _ = _
            rw [HTx.out, List.filter_append]
            have := HR.out
            simp [TxS.dot, this]
          have HO4 := Lib.hid hown4
          clear hown4 c0 c1 c2 c3 c4 c5 c6 c7 c8 c9 c10 ex
          go_wp2_with fail
          go_roundw
          case rel => exact ⟨k + 1, by omega, by go_num, (by show World.ownsRow _ _ _ _ _ _ _; rw [HS.out]; exact HO4.out), HB4.out⟩
          case measure => simp [intOf]; omega
        · have HS : Hid (((o.take (k + 1)).filter fun x => hasV deps x.dot) = ((o.take k).filter fun x => hasV deps x.dot) ++ [x]) := by
            show _ = _
            rw [HTx.out, List.filter_append]
            have := HR.out
            simp [TxS.dot, this]
          obtain ⟨m, hm⟩ : ∃ m, ((o.take k).filter fun x => hasV deps x.dot).length = m := ⟨_, rfl⟩
          rw [hm] at hown4 hfl
          have HM := Lib.hid hm
          clear hm
          go_wp2_with (at_builtin; refine wpList_push (cs := #[.int .i64 x.dev, .int .i64 x.seq, .int .i64 x.time, .slice x.ad x.nd x.cd, .slice x.ao x.no x.co, .slice x.ae x.ne x.ce, .bool x.fm, .slice x.ah x.nh x.ch, .int .i64 x.note, .int .i64 x.whom, .int .i64 x.upto]) elTx rfl _ _ rfl rfl rfl hown4 rfl rfl (by unfold maxLen; omega) (by omega) hbs ?_; intro v5 w5 hown5 hgrow5 hblk5; have HB5 := Lib.hid (below_own HB4.out hown4 (Nat.le_refl _) hgrow5); clear hgrow5 hblk5 ex c0 c1 c2 c3 c4 c5 c6 c7 c8 c9 c10)
          go_roundw
          case rel => exact ⟨k + 1, by omega, by go_num, (by show World.ownsRow _ _ _ _ _ _ _; rw [HS.out, List.length_append, HM.out, txsCs_snoc]; exact hown5), HB5.out⟩
          case measure => simp [intOf]; omega
    · have hkn : n = k := by omega
      subst hkn
      have hk2 : ¬ (n : Int) < (n : Int) := by omega
      have hE := hown.out
      rw [List.take_of_length_le (by have := HLN.out; omega)] at hE
      have HE := Lib.hid hE
      clear hown hE
      go_wp2_with fail
      go_ret
      refine ⟨_, rfl, ⟨?_, fun t ht => ?_⟩, below_then HB1.out (below_then HB2.out HB.out)⟩
      · unfold pastT
        rw [HOE.out]
        exact Rd.of_own HE.out
      · exact (HL0.out.2 t (pastT_mem ht).1).later (below_then HB1.out (below_then HB2.out HB.out))
theorem maxTime_next {p : List TxS} {k : Nat} {x : TxS} (h : p.take (k + 1) = p.take k ++ [x]) : maxTime p (k + 1) = max (maxTime p k) x.time := by
  unfold maxTime
  rw [h, List.foldl_append]; rfl
theorem refUpto_b {va vb : Value} {a b : List Int} {w : World} (r : Bool) (hr : uptoB a b = r) (ha : Rd w va a.length (a.map ic)) (hb : Rd w vb b.length (b.map ic)) (hla : a.length ≤ 1000000) (hlb : b.length ≤ 1000000) :
    Calls Tryz.prog 29 #[va, vb] w fun e w' => e = .returned (.bool r) ∧ w = w' := by
  refine (refUpto_any va vb a b w ha hb (by omega) (by omega)).mono ?_
  rintro e w' ⟨s, rfl, hs, rfl⟩
  have : s = r := by
    rw [← hr, Bool.eq_iff_iff, hs, uptoB_iff]
  exact ⟨by rw [this], rfl⟩
set_option maxRecDepth 100000 in
set_option maxHeartbeats 8000000 in
theorem refTime_any {dev seq time note whom upto : Int} {fm : Bool} {ad ao ae ah : Option Addr} {nd cd no co ne ce nh ch : Nat} {line deps : List Int} {last : Int} {vl vv : Value} {l : List TxS} (w : World) (hv : Rd w vv line.length (line.map ic)) (hl : LRd w vl l) (hd : Rd w (.slice ad nd cd) deps.length (deps.map ic)) (hn : l.length ≤ 1000000) (h1 : line.length ≤ 1000000) (h2 : deps.length ≤ 1000000) :
    Calls Tryz.prog 55 #[vv, .int .i64 last, vl, .agg #[.int .i64 dev, .int .i64 seq, .int .i64 time, .slice ad nd cd, .slice ao no co, .slice ae ne ce, .bool fm, .slice ah nh ch, .int .i64 note, .int .i64 whom, .int .i64 upto]] w fun e w' => e = .returned (.int .i64 (refTimeT line last l deps)) ∧ Below w.heap.size w w' := by
  obtain ⟨w1, hw1⟩ : ∃ w1, w.alloc (.cells #[.int .i64 dev, .int .i64 seq, .int .i64 time, .slice ad nd cd, .slice ao no co, .slice ae ne ce, .bool fm, .slice ah nh ch, .int .i64 note, .int .i64 whom, .int .i64 upto] 31) = w1 := ⟨_, rfl⟩
  have hbw1 : Below w.heap.size w w1 := by rw [← hw1]; exact below_alloc _ _
  have bw1 : Bx w1 w.heap.size #[.int .i64 dev, .int .i64 seq, .int .i64 time, .slice ad nd cd, .slice ao no co, .slice ae ne ce, .bool fm, .slice ah nh ch, .int .i64 note, .int .i64 whom, .int .i64 upto] 31 := by rw [← hw1]; exact bx_new rfl
  have Hw1 := Lib.hid hw1
  have HX := Lib.hid bw1
  have HB1 := Lib.hid hbw1
  have HL := Lib.hid (hl.later hbw1)
  have HD := Lib.hid (hd.later hbw1)
  have HV := Lib.hid (hv.later hbw1)
  have HNL := Lib.hid hn
  have H1 := Lib.hid h1
  have H2 := Lib.hid h2
  clear hl hd hv hw1 hbw1 bw1 hn h1 h2
  go_enter Tryz.func55, Tryz.ntmps55
  go_upto_region 1 with fail
  rw [Hw1.out]
  have p0 := cell_of_box HX.out 0 rfl
  have p1 := cell_of_box HX.out 1 rfl
  have p2 := cell_of_box HX.out 2 rfl
  have p3 := cell_of_box HX.out 3 rfl
  have p4 := cell_of_box HX.out 4 rfl
  have p5 := cell_of_box HX.out 5 rfl
  have p6 := cell_of_box HX.out 6 rfl
  have p7 := cell_of_box HX.out 7 rfl
  have p8 := cell_of_box HX.out 8 rfl
  have p9 := cell_of_box HX.out 9 rfl
  have p10 := cell_of_box HX.out 10 rfl
  go_wp2_with fail
  refine (refPast_any (deps := deps) _ HL.out HD.out HNL.out).mono ?_
  rintro e w2 ⟨v2, rfl, hp2, hb2⟩
  obtain ⟨P, hpe⟩ : ∃ P, pastT l deps = P := ⟨_, rfl⟩
  rw [hpe] at hp2
  have HPE := Lib.hid hpe
  obtain ⟨pa, pc, ev, hpn, hpm, -, -⟩ := id hp2.1
  unfold maxLen at hpm
  obtain ⟨n, hln⟩ : ∃ n, P.length = n := ⟨_, rfl⟩
  rw [hln] at ev hpn
  subst ev
  have HLN := Lib.hid hln
  have HP := Lib.hid hp2
  have HB2 := Lib.hid hb2
  clear hpe hp2 hln hb2 p0 p1 p2 p3 p4 p5 p6 p7 p8 p9 p10
  go_wp2_with fail
  go_loop [10, 11] (fun vm vi => ∃ k : Nat, k ≤ n ∧ vi = .int .i64 k ∧ vm = .int .i64 (maxTime P k)) (fun _ vi => n - (intOf vi).toNat)
  case atStart => exact ⟨0, Nat.zero_le _, by go_num, rfl⟩
  case round =>
    obtain ⟨k, hk, rfl, rfl⟩ := hrel
    by_cases hlt : k < n
    · have hkl : k < P.length := by have := HLN.out; omega
      have hk2 : (k : Int) < (n : Int) := by omega
      have hk0 : (0 : Int) ≤ (k : Int) := by omega
      obtain ⟨x, hx⟩ : ∃ x, P[k]'hkl = x := ⟨_, rfl⟩
      have hlr := (HP.out.later (Below.refl w2.heap.size w2)).1
      rw [HLN.out] at hlr
      obtain ⟨bx, ox, ex, c0, c1, c2, c3, c4, c5, c6, c7, c8, c9, c10, -⟩ := rd_txs hlr HLN.out.symm k hkl hx
      have HTx : Hid (P.take (k + 1) = P.take k ++ [x]) := by show _ = _; rw [List.take_succ_eq_append_getElem hkl, hx]
      have HGx : Hid (P[k]? = some x) := by show _ = _; rw [List.getElem?_eq_getElem hkl, hx]
      have HIx : Hid (x ∈ P) := by show _ ∈ _; rw [← hx]; exact List.getElem_mem hkl
      clear hlr hx
      have HMX := Lib.hid (maxTime_next HTx.out)
      obtain ⟨M, hM⟩ : ∃ M, maxTime P k = M := ⟨_, rfl⟩
      rw [hM] at HMX ⊢
      clear hM
      go_wp2_with fail
      go_round
      case rel => exact ⟨k + 1, by omega, by go_num, (by rw [HMX.out])⟩
      case measure => simp [intOf]; omega
    · have hkn : n = k := by omega
      subst hkn
      have hk2 : ¬ (n : Int) < (n : Int) := by omega
      have p3 := cell_of_box (bx_later HB2.out HX.out) 3 rfl
      obtain ⟨M, hM⟩ : ∃ M, maxTime P n = M := ⟨_, rfl⟩
      have HT : Hid (refTimeT line last l deps = if uptoB line deps = true then max M last else M) := by show _ = _; unfold refTimeT; rw [HPE.out, HLN.out, hM]
      rw [hM]
      clear hM
      go_wp2_with fail
      cases hu : uptoB line deps
      · have HU := Lib.hid hu
        rw [hu] at HT
        clear hu
        refine (refUpto_b false HU.out (HV.out.later HB2.out) (HD.out.later HB2.out) H1.out H2.out).mono ?_
        rintro e w3 ⟨rfl, rfl⟩
        go_wp2_with fail
        go_ret
        exact ⟨ret_int HT.out.symm, below_then HB1.out HB2.out⟩
      · have HU := Lib.hid hu
        rw [hu] at HT
        clear hu
        refine (refUpto_b true HU.out (HV.out.later HB2.out) (HD.out.later HB2.out) H1.out H2.out).mono ?_
        rintro e w3 ⟨rfl, rfl⟩
        go_wp2_with fail
        go_ret
        exact ⟨ret_int HT.out.symm, below_then HB1.out HB2.out⟩
theorem foldl_take1 {o : List Int} {l : List TxS} {k : Nat} {x : TxS} (h : l.take (k + 1) = l.take k ++ [x]) : (l.take (k + 1)).foldl rkStep o = rkStep ((l.take k).foldl rkStep o) x := by rw [h, List.foldl_append]; rfl
theorem split_at {o : List Int} {j : Nat} (h : j < o.length) : o = o.take j ++ o.getD j 0 :: o.drop (j + 1) := by
  rw [List.getD_eq_getElem?_getD, List.getElem?_eq_getElem h]
  simp
theorem set_split {o : List Int} {j : Nat} {y : Int} (h : j < o.length) : o.set j y = o.take j ++ y :: o.drop (j + 1) := by rw [List.set_eq_take_append_cons_drop, if_pos h]
set_option maxRecDepth 100000 in
set_option maxHeartbeats 8000000 in
theorem refKnown_any {vl vv : Value} {l : List TxS} {line : List Int} (w : World) (hv : Rd w vv line.length (line.map ic)) (hl : LRd w vl l) :
    Calls Tryz.prog 53 #[vv, vl] w (MemP w (refKnownT line l)) := by
  obtain ⟨la, lc, rfl, hnc, hcm, -, -⟩ := id hl.1
  unfold maxLen at hcm
  obtain ⟨n, hln⟩ : ∃ n, l.length = n := ⟨_, rfl⟩
  have HL := Lib.hid hl
  have HLN := Lib.hid hln
  rw [hln] at hnc ⊢
  obtain ⟨ga, gc, rfl, -⟩ := id hv
  obtain ⟨cs, hcs, hmk⟩ := run_make_vec2 64 (by decide)
  obtain ⟨m, hgl⟩ : ∃ m, line.length = m := ⟨_, rfl⟩
  have HV := Lib.hid hv
  have HCS := Lib.hid hcs
  obtain ⟨n0, hn0⟩ : ∃ n0, w.heap.size = n0 := ⟨_, rfl⟩
  have HN0 := Lib.hid hn0
  rw [hgl]
  have HGL := Lib.hid hgl
  clear hl hln hv hcs hgl
  have hmk' : ∀ W, (Instr.makeSlice 23 (.int .i64 64) (.int .i64 64)).run Tryz.prog W = .ok (.slice (some ⟨W.heap.size, 0, none⟩) 64 64) (W.alloc (.cells cs 3)) := hmk
  clear hmk
  obtain ⟨wB, hwB⟩ : ∃ wB, w.alloc (.cells cs 3) = wB := ⟨_, rfl⟩
  have hbB : Below w.heap.size w wB := by rw [← hwB]; exact below_alloc _ _
  have hszB : wB.heap.size = n0 + 1 := by rw [← hwB]; simp [hn0]
  have hR : Rw enI 1 wB n0 0 64 (List.replicate 64 (0 : Int)) := by
    have hh := holds_new w (fun x : Int => .int .i64 x) cs 3 (List.replicate 64 (0 : Int)) HCS.out
    rw [hwB, hn0] at hh
    exact ⟨fun _ => rfl, fun x v hv => by rw [List.mem_singleton.1 hv]; rfl, hh, by omega, by simp⟩
  have HR := Lib.hid hR
  have HWB := Lib.hid hwB
  have HBB := Lib.hid hbB
  have HST : Hid (SB enI 1 wB n0 0 (rk0 line 0 ++ List.replicate (64 - 0) 0) wB) := by have := hR.start; show SB _ _ _ _ _ _ _; simpa [rk0] using this
  clear hR hwB hbB hszB
  go_enter Tryz.func53, Tryz.ntmps53
  go_wp2_with fail
  rw [HWB.out]
  clear hmk' hn0
  go_loopw [6] (fun vi wr => ∃ k : Nat, k ≤ 64 ∧ vi = .int .i64 k ∧ Hid (SB enI 1 wB n0 0 (rk0 line k ++ List.replicate (64 - k) 0) wr)) (fun vi _ => 64 - (intOf vi).toNat)
  case atStart => exact ⟨0, by omega, by go_num, HST.out⟩
  case round =>
    obtain ⟨k, hk, rfl, HS⟩ := hrel
    rename World => wr
    by_cases hlt : k < 64
    · have hk2 : (k : Int) < 64 := by omega
      have hk0 : (0 : Int) ≤ (k : Int) := by omega
      have hsp : rk0 line k ++ List.replicate (64 - k) (0 : Int) = rk0 line k ++ (0 : Int) :: List.replicate (63 - k) 0 := by rw [show 64 - k = (63 - k) + 1 by omega, List.replicate_succ]
      have hs1 := HS.out
      rw [hsp] at hs1
      have hln : (rk0 line k ++ (0 : Int) :: List.replicate (63 - k) 0).length = 64 := by rw [List.length_append, List.length_cons, List.length_replicate, rk0_len]; omega
      obtain ⟨f, hf⟩ : ∃ f, ofV line ((k : Int) + 1) = f := ⟨_, rfl⟩
      have HF := Lib.hid hf
      have HW : Hid (Below w.heap.size w wr) := HS.out.old HBB.out (by have := HN0.out; omega)
      obtain ⟨c0, f0⟩ := hs1.cell1 HR.out hln (i := k) (rk0_len _ _).symm rfl
      have hst := hs1.stored1 HR.out (i := k) (y := f) (rk0_len _ _).symm rfl
      rw [Nat.zero_add] at c0 f0 hst
      have HS1 := Lib.hid hst
      clear hsp hs1 hln hf hst
      go_wp2_with fail
      refine (refOfV_f HGL.out HF.out (HV.out.later HW.out)).mono ?_
      rintro e w2 ⟨rfl, rfl⟩
      go_wp2_with fail
      go_roundw
      case rel => exact ⟨k + 1, by omega, by go_num, (by show SB _ _ _ _ _ _ _; rw [rk0_succ, List.append_assoc, List.singleton_append, show 64 - (k + 1) = 63 - k by omega, HF.out]; exact HS1.out)⟩
      case measure => simp [intOf]; omega
    · have hkn : k = 64 := by omega
      subst hkn
      have HS0 : Hid (SB enI 1 wB n0 0 ((l.take 0).foldl rkStep (rk0 line 64)) wr) := by
        have := HS.out
        show SB _ _ _ _ _ _ _
        simpa using this
      clear HS hlt hk HST
      go_wp2_with fail
      go_loopw [7] (fun vi wz => ∃ k : Nat, k ≤ n ∧ vi = .int .i64 k ∧ Hid (SB enI 1 wB n0 0 ((l.take k).foldl rkStep (rk0 line 64)) wz)) (fun vi _ => n - (intOf vi).toNat)
      case atStart => exact ⟨0, Nat.zero_le _, by go_num, HS0.out⟩
      case round =>
        obtain ⟨k, hk, rfl, HS⟩ := hrel
        rename World => wz
        have HW : Hid (Below w.heap.size w wz) := HS.out.old HBB.out (by have := HN0.out; omega)
        by_cases hlt : k < n
        · have hkl : k < l.length := by have := HLN.out; omega
          have hk2 : (k : Int) < (n : Int) := by omega
          have hk0 : (0 : Int) ≤ (k : Int) := by omega
          obtain ⟨x, hx⟩ : ∃ x, l[k]'hkl = x := ⟨_, rfl⟩
          have hlr := (HL.out.later HW.out).1
          rw [HLN.out] at hlr
          obtain ⟨bx, ox, ex, c0, c1, c2, c3, c4, c5, c6, c7, c8, c9, c10, -⟩ := rd_txs hlr HLN.out.symm k hkl hx
          have HTx : Hid (l.take (k + 1) = l.take k ++ [x]) := by show _ = _; rw [List.take_succ_eq_append_getElem hkl, hx]
          have HGx : Hid (l[k]? = some x) := by show _ = _; rw [List.getElem?_eq_getElem hkl, hx]
          have HIx : Hid (x ∈ l) := by show _ ∈ _; rw [← hx]; exact List.getElem_mem hkl
          clear hlr hx
          have HNX := Lib.hid (foldl_take1 (o := rk0 line 64) HTx.out)
          obtain ⟨w3, hw3⟩ : ∃ w3, wz.alloc (.cells #[.int .i64 x.dev, .int .i64 x.seq, .int .i64 x.time, .slice x.ad x.nd x.cd, .slice x.ao x.no x.co, .slice x.ae x.ne x.ce, .bool x.fm, .slice x.ah x.nh x.ch, .int .i64 x.note, .int .i64 x.whom, .int .i64 x.upto] 31) = w3 := ⟨_, rfl⟩
          have hbw3 : Below wz.heap.size wz w3 := by rw [← hw3]; exact below_alloc _ _
          have bw3 : Bx w3 wz.heap.size #[.int .i64 x.dev, .int .i64 x.seq, .int .i64 x.time, .slice x.ad x.nd x.cd, .slice x.ao x.no x.co, .slice x.ae x.ne x.ce, .bool x.fm, .slice x.ah x.nh x.ch, .int .i64 x.note, .int .i64 x.whom, .int .i64 x.upto] 31 := by rw [← hw3]; exact bx_new rfl
          have Hw3 := Lib.hid hw3
          have HQ := Lib.hid bw3
          have HS3 := Lib.hid (HS.out.later hbw3)
          clear hw3 hbw3 bw3
          go_upto_region 10 with fail
          rw [Hw3.out]
          clear c0 c1 c2 c3 c4 c5 c6 c7 c8 c9 c10 ex
          have q0 := cell_of_box HQ.out 0 rfl
          have q1 := cell_of_box HQ.out 1 rfl
          have q2 := cell_of_box HQ.out 2 rfl
          have q3 := cell_of_box HQ.out 3 rfl
          have q4 := cell_of_box HQ.out 4 rfl
          have q5 := cell_of_box HQ.out 5 rfl
          have q6 := cell_of_box HQ.out 6 rfl
          have q7 := cell_of_box HQ.out 7 rfl
          have q8 := cell_of_box HQ.out 8 rfl
          have q9 := cell_of_box HQ.out 9 rfl
          have q10 := cell_of_box HQ.out 10 rfl
          by_cases hin : inQ3 x.dev 1 64 = true ∧ inQ3 x.seq 1 1048576 = true
          case neg =>
            have HNS : Hid (rkStep ((l.take k).foldl rkStep (rk0 line 64)) x = (l.take k).foldl rkStep (rk0 line 64)) := by show _ = _; unfold rkStep; rw [if_neg hin]
            replace HNX := Lib.hid (HNX.out.trans HNS.out)
            have hin2 : ¬ (1 ≤ x.dev ∧ x.dev ≤ 64 ∧ 1 ≤ x.seq ∧ x.seq ≤ 1048576) := fun h => hin (by unfold inQ3; simp [h.1, h.2.1, h.2.2.1, h.2.2.2])
            clear hin
            cases h1 : decide (1 ≤ x.dev)
            · clear hin2
              go_wp2_with fail
              go_roundw
              case rel => exact ⟨k + 1, by omega, by go_num, (by show SB _ _ _ _ _ _ _; rw [HNX.out]; exact HS3.out)⟩
              case measure => simp [intOf]; omega
            cases h2 : decide (x.dev ≤ 64)
            · clear hin2
              go_wp2_with fail
              go_roundw
              case rel => exact ⟨k + 1, by omega, by go_num, (by show SB _ _ _ _ _ _ _; rw [HNX.out]; exact HS3.out)⟩
              case measure => simp [intOf]; omega
            cases h3 : decide (1 ≤ x.seq)
            · clear hin2
              go_wp2_with fail
              go_roundw
              case rel => exact ⟨k + 1, by omega, by go_num, (by show SB _ _ _ _ _ _ _; rw [HNX.out]; exact HS3.out)⟩
              case measure => simp [intOf]; omega
            cases h4 : decide (x.seq ≤ 1048576)
            · clear hin2
              go_wp2_with fail
              go_roundw
              case rel => exact ⟨k + 1, by omega, by go_num, (by show SB _ _ _ _ _ _ _; rw [HNX.out]; exact HS3.out)⟩
              case measure => simp [intOf]; omega
            · exact absurd ⟨of_decide_eq_true h1, of_decide_eq_true h2, of_decide_eq_true h3, of_decide_eq_true h4⟩ hin2
          have hd := inQ3_bd hin.1
          have hs := inQ3_bd hin.2
          have h1 : decide (1 ≤ x.dev) = true := decide_eq_true hd.1
          have h2 : decide (x.dev ≤ 64) = true := decide_eq_true hd.2
          have h3 : decide (1 ≤ x.seq) = true := decide_eq_true hs.1
          have h4 : decide (x.seq ≤ 1048576) = true := decide_eq_true hs.2
          obtain ⟨j, hj⟩ : ∃ j, (x.dev - 1).toNat = j := ⟨_, rfl⟩
          obtain ⟨o, ho⟩ : ∃ o, (l.take k).foldl rkStep (rk0 line 64) = o := ⟨_, rfl⟩
          have hol : o.length = 64 := by rw [← ho, rkFold_len, rk0_len]
          have hjl : j < o.length := by omega
          obtain ⟨y0, hy0⟩ : ∃ y0, o.getD j 0 = y0 := ⟨_, rfl⟩
          have hsp := split_at hjl
          rw [hy0] at hsp
          have hs3 := HS3.out
          rw [ho, hsp] at hs3
          have HS4 := Lib.hid hs3
          have hlen4 : (o.take j ++ y0 :: o.drop (j + 1)).length = 64 := by rw [← hsp]; exact hol
          have hjt : j = (o.take j).length := by rw [List.length_take]; omega
          have HLN4 := Lib.hid hlen4
          have HJT := Lib.hid hjt
          have HNS : Hid ((l.take (k + 1)).foldl rkStep (rk0 line 64) = o.take j ++ max y0 x.seq :: o.drop (j + 1)) := by
            show _ = _
            rw [HNX.out, ho]
            unfold rkStep
            rw [if_pos hin, hj, hy0, set_split hjl]
          have hz : IntKind.i64.wrap (x.dev - 1) = (j : Int) := by rw [IntWalk.i64_in _ (by omega)]; omega
          have hj0 : (0 : Int) ≤ (j : Int) := by omega
          have hj1 : (j : Int) < 64 := by omega
          obtain ⟨c0, f0⟩ := HS4.out.cell1 HR.out hlen4 (i := j) hjt rfl
          rw [Nat.zero_add] at c0
          clear hin hd hs hol hjl hy0 hsp hs3 hlen4 hjt hj ho
          go_upto_region 11 with fail
          clear h1 h2 h3 h4
          refine wp_region_flow (by kernel_rfl) 14 [(12, ⟨fun v => v = .int .i64 (max y0 x.seq), fun _ _ _ _ => True⟩)] (by kernel_rfl) ?_ ?_ ?_
          · intro x hx
            simp only [List.mem_cons, List.not_mem_nil, or_false] at hx
            subst hx
            exact ⟨_, rfl⟩
          · intro x hx v lo hi w w' h hb
            simp only [List.mem_cons, List.not_mem_nil, or_false] at hx
            subst hx
            exact trivial
          · intro lo hi
            have kq0 := cell_regrown q0
            have kq1 := cell_regrown q1
            have kc0 := cell_regrown c0
            refine flowW_plain rfl ?_
            go_big_quiet_step (fail)
            refine wpQuiet_nil ?_
            refine flowW_plain rfl ?_
            go_big_quiet_step (fail)
            refine wpQuiet_nil ?_
            refine flowW_plain rfl ?_
            go_big_quiet_step (fail)
            refine wpQuiet_nil ?_
            refine flowW_plain rfl ?_
            go_big_quiet_step (fail)
            refine wpQuiet_nil ?_
            refine flowW_plain rfl ?_
            go_big_quiet_step (fail)
            refine wpQuiet_nil ?_
            refine flowW_plain rfl ?_
            go_big_quiet_step (fail)
            refine wpQuiet_nil ?_
            refine flowW_plain rfl ?_
            go_big_quiet_step (fail)
            refine wpQuiet_nil ?_
            refine flowW_plain rfl ?_
            go_big_quiet_step (fail)
            refine wpQuiet_nil ?_
            refine flowW_plain rfl ?_
            go_big_quiet_step (fail)
            refine wpQuiet_nil ?_
            refine flowW_plain rfl ?_
            go_big_quiet_step (fail)
            refine wpQuiet_nil ?_
            refine flowW_plain rfl ?_
            go_big_quiet_step (fail)
            refine wpQuiet_nil ?_
            refine flowW_plain rfl ?_
            go_big_quiet_step (fail)
            refine wpQuiet_nil ?_
            refine flowW_call rfl rfl ?_ ?_
            · intro W hW hF K hK
              clear kq0 kq1 kc0
              go_wp2_with fail
              exact hK _ _ rfl trivial (Below.refl _ _)
            rintro v rfl K hK
            go_simp
            refine hK _ ?_
            clear hK K
            refine flowW_plain rfl ?_
            go_big_quiet_step (fail)
            refine wpQuiet_nil ?_
            refine flowW_end fun w5 hw5 hF hD => ?_
            clear kq0 kq1 kc0
            simp only [List.drop_succ_cons, List.drop_zero]
            have HS5 := Lib.hid (HS4.out.later hw5)
            obtain ⟨c0, f0⟩ := HS5.out.cell1 HR.out HLN4.out (i := j) HJT.out rfl
            have hst := HS5.out.stored1 HR.out (i := j) (y := max y0 x.seq) HJT.out rfl
            rw [Nat.zero_add] at c0 f0 hst
            have HS6 := Lib.hid hst
            clear hw5 hF hD hst q0 q1 q2 q3 q4 q5 q6 q7 q8 q9 q10
            go_wp2_with fail
            refine ⟨?_, ?measure⟩
            (repeat apply Exists.intro)
            refine ⟨?rel, ?eqs⟩
            case eqs => repeat' (first | rfl | refine ⟨?_, ?_⟩)
            case rel => exact ⟨k + 1, by omega, by go_num, (by show SB _ _ _ _ _ _ _; rw [HNS.out]; exact HS6.out)⟩
            case measure => simp [intOf]; omega
        · have hkn : n = k := by omega
          subst hkn
          have hk2 : ¬ (n : Int) < (n : Int) := by omega
          have hend := HS.out
          rw [List.take_of_length_le (by have := HLN.out; omega)] at hend
          have hlen : (rkL line l).length = 64 := by unfold rkL; rw [rkFold_len, rk0_len]
          have hrd : Rd wz (.slice (some ⟨n0, 0, none⟩) 64 64) (rkL line l).length ((rkL line l).map ic) := by
            have hh := hend.rd1 HR.out (by rw [rkFold_len, rk0_len]) (fun x => .int .i64 x) (fun x => rfl) (cap := 64) (Nat.le_refl _) (by decide)
            rw [hlen]
            exact hh
          have HT := Lib.hid (refTrim_any _ _ (rkL line l) wz rfl hrd)
          clear hend hlen hrd HS
          go_wp2_with fail
          refine HT.out.mono ?_
          rintro e w7 ⟨v7, rfl, hr7, rfl⟩
          have HR7 := Lib.hid hr7
          clear hr7
          go_wp2_with fail
          go_ret
          exact ⟨_, rfl, HR7.out, HW.out⟩
end Go.Proofs.YtnolbabpkhdpmaaGreat
