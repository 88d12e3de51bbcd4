/-
  Layer 17 (tx): a transaction's bytes. (printed by tools/gen_ub.py)
-/
import Derived.Test.YtliokkoalkhpaaaUA
namespace Go.Proofs.Ytliokkoalkhpaaa
open Go.RowKit Go.Sort Go.BigFrame

def TxT.trim (t : TxT) : TxT := { t with deps := trimL t.deps }
def bytesHs (l : List HandT) : List UInt8 := l.flatMap bytesHand
theorem bytesHand_len (h : HandT) : (bytesHand h).length ≤ 80 := numsL_len h.nums
theorem bytesHs_len (l : List HandT) : (bytesHs l).length ≤ 80 * l.length := by
  unfold bytesHs
  induction l with
  | nil => simp
  | cons a l ih =>
    rw [List.flatMap_cons, List.length_append, List.length_cons, Nat.mul_succ]
    have h1 := bytesHand_len a
    omega
theorem bytesHs_take (l : List HandT) (k : Nat) (hk : k ≤ l.length) : (bytesHs (l.take k)).length ≤ 80 * l.length := by
  have h1 := bytesHs_len (l.take k)
  rw [List.length_take, Nat.min_eq_left hk] at h1
  omega
theorem bytesHs_next {l : List HandT} {k : Nat} (hk : k < l.length) {x : HandT} (hx : l[k] = x) (p : List UInt8) : p ++ bytesHs (l.take k) ++ nums x.nums = p ++ bytesHs (l.take (k + 1)) := by
  unfold bytesHs
  rw [List.take_succ_eq_append_getElem hk, List.flatMap_append, hx]
  simp [bytesHand]
theorem putL_ops_len {l : List OpM} (h : ∀ a ∈ l, a.op.fit) : (putL bytesOp (l.map OpM.op)).length ≤ 10 + 640000 * l.length := by
  rw [putL_ops, List.length_append]
  have := put_len (l.length : Int)
  have := bytesOps_len h
  omega
theorem own_drew {w : World} {B n : Nat} {e : TypeId} {size : Nat} {v : Value} {xs : List Value} (h : w.ownsRow B e size v n xs) : w.drew.ownsRow B e size v n xs := h

set_option maxRecDepth 100000 in
set_option maxHeartbeats 8000000 in
theorem bytesT_any {dev seq time note whom upto : Int} (fm : Bool) (deps : List Int) (ops els : List OpM) (hands : List HandT) {ad ao ae ah : Option Addr} {nd cd no co ne ce nh ch : Nat} (w : World)
    (hnd : deps.length = nd) (hno : ops.length = no) (hne : els.length = ne) (hnh : hands.length = nh)
    (hd : Rd w (.slice ad nd cd) deps.length (deps.map ic)) (ho : ORd w (.slice ao no co) ops) (he : ORd w (.slice ae ne ce) els) (hh : Rd w (.slice ah nh ch) hands.length (hands.flatMap HandT.cs))
    (hhd : ∀ x ∈ [dev, seq, time, firmI fm, note, whom, upto], okI x) (hdl : nd ≤ 1000000) (hdo : ∀ x ∈ deps, okI x) (hol : no ≤ 2000) (hof : ∀ a ∈ ops, a.op.fit) (hel : ne ≤ 2000) (hef : ∀ a ∈ els, a.op.fit) (hhl : nh ≤ 2000) (hho : ∀ h ∈ hands, ∀ x ∈ h.nums, okI x) :
    Calls Try.prog 19 #[.agg #[.int .i64 dev, .int .i64 seq, .int .i64 time, .slice ad nd cd, .slice ao no co, .slice ae ne ce, .bool fm, .slice ah nh ch, .int .i64 note, .int .i64 whom, .int .i64 upto]] w (OwnB w (bytesT ⟨dev, seq, time, trimL deps, ops.map OpM.op, els.map OpM.op, fm, hands, note, whom, upto⟩)) := by
  have HD := Lib.hid hd
  have HOP := Lib.hid ho
  have HEL := Lib.hid he
  have HHA := Lib.hid hh
  have HDO := Lib.hid hdo
  have HOF := Lib.hid hof
  have HEF := Lib.hid hef
  have HHO := Lib.hid hho
  have HND := Lib.hid hnd
  have HNO := Lib.hid hno
  have HNE := Lib.hid hne
  have HNH := Lib.hid hnh
  have hcm : ch ≤ maxLen := by obtain ⟨_, _, hv, -, h2, -, -⟩ := id hh; cases hv; exact h2
  unfold maxLen at hcm
  have hnc : nh ≤ ch := by obtain ⟨_, _, hv, h1, -, -, -⟩ := id hh; cases hv; omega
  obtain ⟨p1, hp1⟩ : ∃ p, nums [dev, seq, time, firmI fm, note, whom, upto] = p := ⟨_, rfl⟩
  obtain ⟨p2, hp2⟩ : ∃ p, p1 ++ nums (trimL deps) = p := ⟨_, rfl⟩
  obtain ⟨p3, hp3⟩ : ∃ p, p2 ++ putL bytesOp (ops.map OpM.op) = p := ⟨_, rfl⟩
  obtain ⟨p4, hp4⟩ : ∃ p, p3 ++ putL bytesOp (els.map OpM.op) = p := ⟨_, rfl⟩
  obtain ⟨p5, hp5⟩ : ∃ p, p4 ++ put (nh : Int) = p := ⟨_, rfl⟩
  have hl1 : p1.length ≤ 80 := by rw [← hp1]; exact numsL_len _
  have hlt : (nums (trimL deps)).length ≤ 10000010 := by have := numsL_len (trimL deps); have := trimL_len deps; omega
  have hl2 : p2.length ≤ 10000090 := by rw [← hp2, List.length_append]; omega
  have hlo : (putL bytesOp (ops.map OpM.op)).length ≤ 10 + 640000 * 2000 := by have := putL_ops_len hof; omega
  have hl3 : p3.length ≤ 10000100 + 640000 * 2000 := by rw [← hp3, List.length_append]; omega
  have hle : (putL bytesOp (els.map OpM.op)).length ≤ 10 + 640000 * 2000 := by have := putL_ops_len hef; omega
  have hl4 : p4.length ≤ 10000110 + 640000 * 4000 := by rw [← hp4, List.length_append]; omega
  have hpn := put_len (nh : Int)
  have hl5 : p5.length ≤ 10000120 + 640000 * 4000 := by rw [← hp5, List.length_append]; omega
  have HFIN : Hid (OwnB w (bytesT ⟨dev, seq, time, trimL deps, ops.map OpM.op, els.map OpM.op, fm, hands, note, whom, upto⟩) = OwnB w (p5 ++ bytesHs hands)) := by
    show _ = _
    rw [← hp5, ← hp4, ← hp3, ← hp2, ← hp1, ← hnh]
    congr 1
    unfold bytesT TxT.head bytesHs
    simp [putL]
  rw [HFIN.out]
  have HP1 := Lib.hid hp1
  have HP2 := Lib.hid hp2
  have HP3 := Lib.hid hp3
  have HP4 := Lib.hid hp4
  have HP5 := Lib.hid hp5
  have HHD := Lib.hid hhd
  have hne' : els.length ≤ 2000 := by omega
  have hno' : ops.length ≤ 2000 := by omega
  have HLE := Lib.hid hne'
  have HLO := Lib.hid hno'
  have HTL : Hid ((trimL deps).length ≤ 1000000000) := by have := trimL_len deps; show _ ≤ _; omega
  have HDL : Hid (deps.length ≤ 1000000) := by show _ ≤ _; omega
  have HTO : Hid (∀ x ∈ trimL deps, okI x) := fun x hx => hdo x (trimL_mem hx)
  have HTK := Lib.hid (bytesHs_take hands)
  rw [hnh] at HTK
  clear hd ho he hh hdo hof hef hho hnd hno hne hnh hp1 hp2 hp3 hp4 hp5 HFIN hhd hne' hno'
  cases fm
  · have HP1' : Hid (nums [dev, seq, time, 0, note, whom, upto] = p1) := HP1.out
    have HHD' : Hid (∀ x ∈ [dev, seq, time, 0, note, whom, upto], okI x) := HHD.out
    clear HP1 HHD
    go_enter Try.func19, Try.ntmps19
    go_wp2_with fail
    have hrq : Rd ((w.alloc (.cells #[.int .i64 dev, .int .i64 seq, .int .i64 time, .slice ad nd cd, .slice ao no co, .slice ae ne ce, .bool false, .slice ah nh ch, .int .i64 note, .int .i64 whom, .int .i64 upto] 27)).alloc (.cells #[.int .i64 dev, .int .i64 seq, .int .i64 time, .int .i64 0, .int .i64 note, .int .i64 whom, .int .i64 upto] 3)) (.slice (some ⟨w.heap.size + 1, 0, none⟩) 7 7) 7 ([dev, seq, time, 0, note, whom, upto].map ic) := by
      have := rd_lit (w.alloc (.cells #[.int .i64 dev, .int .i64 seq, .int .i64 time, .slice ad nd cd, .slice ao no co, .slice ae ne ce, .bool false, .slice ah nh ch, .int .i64 note, .int .i64 whom, .int .i64 upto] 27)) #[.int .i64 dev, .int .i64 seq, .int .i64 time, .int .i64 0, .int .i64 note, .int .i64 whom, .int .i64 upto] 3 7 (by decide)
      rw [alloc_size] at this
      exact this
    have hq0 : Bx ((w.alloc (.cells #[.int .i64 dev, .int .i64 seq, .int .i64 time, .slice ad nd cd, .slice ao no co, .slice ae ne ce, .bool false, .slice ah nh ch, .int .i64 note, .int .i64 whom, .int .i64 upto] 27)).alloc (.cells #[.int .i64 dev, .int .i64 seq, .int .i64 time, .int .i64 0, .int .i64 note, .int .i64 whom, .int .i64 upto] 3)) w.heap.size #[.int .i64 dev, .int .i64 seq, .int .i64 time, .slice ad nd cd, .slice ao no co, .slice ae ne ce, .bool false, .slice ah nh ch, .int .i64 note, .int .i64 whom, .int .i64 upto] 27 := bx_later (below_alloc _ _) (bx_new rfl)
    have hbq : Below w.heap.size w ((w.alloc (.cells #[.int .i64 dev, .int .i64 seq, .int .i64 time, .slice ad nd cd, .slice ao no co, .slice ae ne ce, .bool false, .slice ah nh ch, .int .i64 note, .int .i64 whom, .int .i64 upto] 27)).alloc (.cells #[.int .i64 dev, .int .i64 seq, .int .i64 time, .int .i64 0, .int .i64 note, .int .i64 whom, .int .i64 upto] 3)) := below_then (below_alloc _ _) (below_alloc _ _)
    generalize hWQ : (w.alloc (.cells #[.int .i64 dev, .int .i64 seq, .int .i64 time, .slice ad nd cd, .slice ao no co, .slice ae ne ce, .bool false, .slice ah nh ch, .int .i64 note, .int .i64 whom, .int .i64 upto] 27)).alloc (.cells #[.int .i64 dev, .int .i64 seq, .int .i64 time, .int .i64 0, .int .i64 note, .int .i64 whom, .int .i64 upto] 3) = wq at hrq hq0 hbq ⊢
    clear hWQ
    have HBQ := Lib.hid hbq
    have HQ := Lib.hid hq0
    clear hbq hq0
    refine (nums_any _ _ _ hrq (by simp) HHD'.out).mono ?_
    rintro e w1 ⟨v1, rfl, hown1, hb1⟩
    have HO1 := Lib.hid (own_eqB hown1 HP1'.out)
    have HB1 := Lib.hid hb1
    have e3 := cell_of_box (bx_later hb1 HQ.out) 3 rfl
    clear hown1 hb1 hrq
    go_wp2_with fail
    refine (vTrim_any _ _ _ (HD.out.later (below_then HBQ.out HB1.out)) HDL.out).mono ?_
    rintro e wt ⟨vt, rfl, hot, hbt⟩
    have HT := Lib.hid (Rd.of_own hot)
    replace HO1 := Lib.hid (own_later HO1.out hbt)
    replace HB1 := Lib.hid (below_call HB1.out (Nat.le_refl _) hbt)
    clear hot hbt e3
    go_wp2_with fail
    refine (nums_any _ _ _ HT.out HTL.out HTO.out).mono ?_
    rintro e wc ⟨vc, rfl, hownc, hbc⟩
    have hob := own_later HO1.out hbc
    have hbb := below_call HB1.out (Nat.le_refl _) hbc
    clear hbc
    go_wp2_with (at_builtin; refine wpList_app elB ⟨_, elB.ty, fun k h => nomatch h⟩ rfl _ _ rfl rfl rfl hob (Src.of_rd (Rd.of_own hownc) (by simp)) (oneCell_bytes _) (by unfold maxLen; omega) (by omega) hbb.size ?_; intro v2 w2 hownn hgrown hblkn; have HO2 := Lib.hid (own_eqB (own_bytes hownn (l := p1 ++ nums (trimL deps)) (by simp) (by simp)) HP2.out); have HB2 := Lib.hid (below_app hbb (Nat.le_refl _) hob hgrown); clear hownc hob hbb hownn hgrown hblkn HO1 HB1 HT; have e4 := cell_of_box (bx_later HB2.out HQ.out) 4 rfl; have e5 := cell_of_box (bx_later HB2.out HQ.out) 5 rfl)
    have hOD := own_drew HO2.out
    have hBD := HB2.out.drew
    have HR1 := Lib.hid (HOP.out.later HBQ.out)
    have HR2 := Lib.hid (HEL.out.later HBQ.out)
    go_region_with (first
      | (go_at_call 33; (with_reducible refine (ops_any (w0 := wq) _ _ p2 ops _ hBD hOD HR1.out HLO.out HOF.out (by omega)).mono ?_); rintro e w3 ⟨v3, rfl, hown3, hb3⟩; have e5' := cell_of_box (bx_later hb3 HQ.out) 5 rfl)
      | (go_at_call 33; (with_reducible refine (ops_any (w0 := wq) _ _ _ els _ (by assumption) (by assumption) HR2.out HLE.out HEF.out (by rw [HP3.out]; omega)).mono ?_); rintro e w4 ⟨v4, rfl, hown4, hb4⟩))
    all_goals
      have HO4 := Lib.hid (own_eqB hown4 (by rw [HP3.out, HP4.out]))
      have HB4 := Lib.hid hb4
      have g7 := cell_of_box (bx_later hb4 HQ.out) 7 rfl
      clear hown4 hb4 hOD hBD HO2 HB2 HR1 HR2
      go_wp2_with fail
      refine (put_any _ _ (by omega) (by omega)).mono ?_
      rintro e wc ⟨vc, rfl, hownc, hbc⟩
      have hob := own_later HO4.out hbc
      have hbb := below_call HB4.out (Nat.le_refl _) hbc
      clear hbc
      go_wp2_with (at_builtin; refine wpList_app elB ⟨_, elB.ty, fun k h => nomatch h⟩ rfl _ _ rfl rfl rfl hob (Src.of_rd (Rd.of_own hownc) (by simp)) (oneCell_bytes _) (by unfold maxLen; omega) (by omega) hbb.size ?_; intro v5 w5 hownn hgrown hblkn; have HO5 := Lib.hid (own_eqB (own_bytes hownn (l := p4 ++ put (nh : Int)) (by simp) (by simp)) HP5.out); have HB5 := Lib.hid (below_app hbb (Nat.le_refl _) hob hgrown); clear hownc hob hbb hownn hgrown hblkn HO4 HB4; try clear g7; have e7 := cell_of_box (bx_later HB5.out HQ.out) 7 rfl)
      go_loopw [4, 47] (fun vo vi wr => ∃ (k : Nat) (xs : List UInt8), k ≤ nh ∧ vi = .int .i64 k ∧ Hid (xs = p5 ++ bytesHs (hands.take k)) ∧ Hid (wr.ownsRow wq.heap.size 5 1 vo xs.length (xs.map bc)) ∧ Hid (Below wq.heap.size wq wr)) (fun _ vi _ => nh - (intOf vi).toNat)
      case atStart => exact ⟨0, _, Nat.zero_le _, rfl, (by show _ = _; simp [bytesHs]), HO5.out, HB5.out⟩
      case round =>
        obtain ⟨k, xs, hk, rfl, HX, hown, hb⟩ := hrel
        rename World => wr
        have hxl : xs.length ≤ 10000120 + 640000 * 4000 + 80 * 2000 := by
          have h1 := HTK.out k hk
          rw [HX.out, List.length_append]
          omega
        by_cases hlt : k < nh
        · have hkl : k < hands.length := by have := HNH.out; omega
          obtain ⟨x, hx⟩ : ∃ x, hands[k] = x := ⟨_, rfl⟩
          have hrh : Rd wr (.slice ah nh ch) nh (hands.flatMap HandT.cs) := by have := (HHA.out.later HBQ.out).later hb.out; rwa [HNH.out] at this
          obtain ⟨b, oo, x1, c0, c1, c2, c3, c4, c5, c6, _⟩ := rd_hand hrh HNH.out.symm k hkl hx
          have HHX : Hid (∀ y ∈ x.nums, okI y) := HHO.out x (hx ▸ List.getElem_mem hkl)
          have HNX := Lib.hid (fun p => bytesHs_next hkl hx p)
          have hl6 := numsL_len x.nums
          have hl7 : x.nums.length = 7 := rfl
          clear hx hrh
          go_wp2_with fail
          have hrq : Rd (((wr.alloc (.cells #[.int .i64 x.to, .int .i64 x.kind, .int .i64 x.table, .int .i64 x.col, .int .i64 x.lo, .int .i64 x.hi, .int .i64 x.amt] 67)).alloc (.cells #[.int .i64 x.kind, .int .i64 x.table, .int .i64 x.col, .int .i64 x.lo, .int .i64 x.hi, .int .i64 x.amt] 65)).alloc (.cells #[.int .i64 x.to, .int .i64 x.kind, .int .i64 x.table, .int .i64 x.col, .int .i64 x.lo, .int .i64 x.hi, .int .i64 x.amt] 3)) (.slice (some ⟨wr.heap.size + 2, 0, none⟩) 7 7) 7 (x.nums.map ic) := by
            have := rd_lit ((wr.alloc (.cells #[.int .i64 x.to, .int .i64 x.kind, .int .i64 x.table, .int .i64 x.col, .int .i64 x.lo, .int .i64 x.hi, .int .i64 x.amt] 67)).alloc (.cells #[.int .i64 x.kind, .int .i64 x.table, .int .i64 x.col, .int .i64 x.lo, .int .i64 x.hi, .int .i64 x.amt] 65)) #[.int .i64 x.to, .int .i64 x.kind, .int .i64 x.table, .int .i64 x.col, .int .i64 x.lo, .int .i64 x.hi, .int .i64 x.amt] 3 7 (by decide)
            rw [alloc_size, alloc_size] at this
            exact this
          have hbq : Below wr.heap.size wr (((wr.alloc (.cells #[.int .i64 x.to, .int .i64 x.kind, .int .i64 x.table, .int .i64 x.col, .int .i64 x.lo, .int .i64 x.hi, .int .i64 x.amt] 67)).alloc (.cells #[.int .i64 x.kind, .int .i64 x.table, .int .i64 x.col, .int .i64 x.lo, .int .i64 x.hi, .int .i64 x.amt] 65)).alloc (.cells #[.int .i64 x.to, .int .i64 x.kind, .int .i64 x.table, .int .i64 x.col, .int .i64 x.lo, .int .i64 x.hi, .int .i64 x.amt] 3)) := below_then (below_alloc _ _) (below_then (below_alloc _ _) (below_alloc _ _))
          generalize hWQ : ((wr.alloc (.cells #[.int .i64 x.to, .int .i64 x.kind, .int .i64 x.table, .int .i64 x.col, .int .i64 x.lo, .int .i64 x.hi, .int .i64 x.amt] 67)).alloc (.cells #[.int .i64 x.kind, .int .i64 x.table, .int .i64 x.col, .int .i64 x.lo, .int .i64 x.hi, .int .i64 x.amt] 65)).alloc (.cells #[.int .i64 x.to, .int .i64 x.kind, .int .i64 x.table, .int .i64 x.col, .int .i64 x.lo, .int .i64 x.hi, .int .i64 x.amt] 3) = wx at hrq hbq ⊢
          clear hWQ
          refine (nums_any _ _ _ hrq (by simp [HandT.nums]) HHX.out).mono ?_
          rintro e w2 ⟨v2, rfl, hown2, hb2⟩
          have hw2 : Below wr.heap.size wr w2 := below_then hbq hb2
          have hob := own_later hown.out hw2
          have hbb := below_call hb.out (Nat.le_refl _) hw2
          clear hrq hb2 hbq hw2
          go_wp2_with (at_builtin; refine wpList_app elB ⟨_, elB.ty, fun k h => nomatch h⟩ rfl _ _ rfl rfl rfl hob (Src.of_rd (Rd.of_own hown2) (by simp)) (oneCell_bytes _) (by unfold maxLen; omega) (by omega) hbb.size ?_; intro v3 w3 hown3 hgrow3 hblk3; have HO3 := Lib.hid (own_bytes hown3 (l := xs ++ nums x.nums) (by simp) (by simp)); have HB3 := Lib.hid (below_app hbb (Nat.le_refl _) hob hgrow3); clear hown2 hob hbb hown3 hgrow3 hblk3)
          go_roundw
          case rel => exact ⟨k + 1, _, by omega, by go_num, (by show _ = _; rw [HX.out]; exact HNX.out _), HO3.out, HB3.out⟩
          case measure => simp [intOf]; omega
        · have hkn : k = nh := by omega
          have HK := Lib.hid hkn
          clear hkn
          go_wp2_with fail
          go_ret
          have e : xs = p5 ++ bytesHs hands := by rw [HX.out, HK.out, List.take_of_length_le (by have := HNH.out; omega)]
          rw [← e]
          exact ⟨_, rfl, own_mono0 hown.out HBQ.out.size, below_then HBQ.out hb.out⟩
  · have HP1' : Hid (nums [dev, seq, time, 1, note, whom, upto] = p1) := HP1.out
    have HHD' : Hid (∀ x ∈ [dev, seq, time, 1, note, whom, upto], okI x) := HHD.out
    clear HP1 HHD
    go_enter Try.func19, Try.ntmps19
    go_wp2_with fail
    have hrq : Rd ((w.alloc (.cells #[.int .i64 dev, .int .i64 seq, .int .i64 time, .slice ad nd cd, .slice ao no co, .slice ae ne ce, .bool true, .slice ah nh ch, .int .i64 note, .int .i64 whom, .int .i64 upto] 27)).alloc (.cells #[.int .i64 dev, .int .i64 seq, .int .i64 time, .int .i64 1, .int .i64 note, .int .i64 whom, .int .i64 upto] 3)) (.slice (some ⟨w.heap.size + 1, 0, none⟩) 7 7) 7 ([dev, seq, time, 1, note, whom, upto].map ic) := by
      have := rd_lit (w.alloc (.cells #[.int .i64 dev, .int .i64 seq, .int .i64 time, .slice ad nd cd, .slice ao no co, .slice ae ne ce, .bool true, .slice ah nh ch, .int .i64 note, .int .i64 whom, .int .i64 upto] 27)) #[.int .i64 dev, .int .i64 seq, .int .i64 time, .int .i64 1, .int .i64 note, .int .i64 whom, .int .i64 upto] 3 7 (by decide)
      rw [alloc_size] at this
      exact this
    have hq0 : Bx ((w.alloc (.cells #[.int .i64 dev, .int .i64 seq, .int .i64 time, .slice ad nd cd, .slice ao no co, .slice ae ne ce, .bool true, .slice ah nh ch, .int .i64 note, .int .i64 whom, .int .i64 upto] 27)).alloc (.cells #[.int .i64 dev, .int .i64 seq, .int .i64 time, .int .i64 1, .int .i64 note, .int .i64 whom, .int .i64 upto] 3)) w.heap.size #[.int .i64 dev, .int .i64 seq, .int .i64 time, .slice ad nd cd, .slice ao no co, .slice ae ne ce, .bool true, .slice ah nh ch, .int .i64 note, .int .i64 whom, .int .i64 upto] 27 := bx_later (below_alloc _ _) (bx_new rfl)
    have hbq : Below w.heap.size w ((w.alloc (.cells #[.int .i64 dev, .int .i64 seq, .int .i64 time, .slice ad nd cd, .slice ao no co, .slice ae ne ce, .bool true, .slice ah nh ch, .int .i64 note, .int .i64 whom, .int .i64 upto] 27)).alloc (.cells #[.int .i64 dev, .int .i64 seq, .int .i64 time, .int .i64 1, .int .i64 note, .int .i64 whom, .int .i64 upto] 3)) := below_then (below_alloc _ _) (below_alloc _ _)
    generalize hWQ : (w.alloc (.cells #[.int .i64 dev, .int .i64 seq, .int .i64 time, .slice ad nd cd, .slice ao no co, .slice ae ne ce, .bool true, .slice ah nh ch, .int .i64 note, .int .i64 whom, .int .i64 upto] 27)).alloc (.cells #[.int .i64 dev, .int .i64 seq, .int .i64 time, .int .i64 1, .int .i64 note, .int .i64 whom, .int .i64 upto] 3) = wq at hrq hq0 hbq ⊢
    clear hWQ
    have HBQ := Lib.hid hbq
    have HQ := Lib.hid hq0
    clear hbq hq0
    refine (nums_any _ _ _ hrq (by simp) HHD'.out).mono ?_
    rintro e w1 ⟨v1, rfl, hown1, hb1⟩
    have HO1 := Lib.hid (own_eqB hown1 HP1'.out)
    have HB1 := Lib.hid hb1
    have e3 := cell_of_box (bx_later hb1 HQ.out) 3 rfl
    clear hown1 hb1 hrq
    go_wp2_with fail
    refine (vTrim_any _ _ _ (HD.out.later (below_then HBQ.out HB1.out)) HDL.out).mono ?_
    rintro e wt ⟨vt, rfl, hot, hbt⟩
    have HT := Lib.hid (Rd.of_own hot)
    replace HO1 := Lib.hid (own_later HO1.out hbt)
    replace HB1 := Lib.hid (below_call HB1.out (Nat.le_refl _) hbt)
    clear hot hbt e3
    go_wp2_with fail
    refine (nums_any _ _ _ HT.out HTL.out HTO.out).mono ?_
    rintro e wc ⟨vc, rfl, hownc, hbc⟩
    have hob := own_later HO1.out hbc
    have hbb := below_call HB1.out (Nat.le_refl _) hbc
    clear hbc
    go_wp2_with (at_builtin; refine wpList_app elB ⟨_, elB.ty, fun k h => nomatch h⟩ rfl _ _ rfl rfl rfl hob (Src.of_rd (Rd.of_own hownc) (by simp)) (oneCell_bytes _) (by unfold maxLen; omega) (by omega) hbb.size ?_; intro v2 w2 hownn hgrown hblkn; have HO2 := Lib.hid (own_eqB (own_bytes hownn (l := p1 ++ nums (trimL deps)) (by simp) (by simp)) HP2.out); have HB2 := Lib.hid (below_app hbb (Nat.le_refl _) hob hgrown); clear hownc hob hbb hownn hgrown hblkn HO1 HB1 HT; have e4 := cell_of_box (bx_later HB2.out HQ.out) 4 rfl; have e5 := cell_of_box (bx_later HB2.out HQ.out) 5 rfl)
    have hOD := own_drew HO2.out
    have hBD := HB2.out.drew
    have HR1 := Lib.hid (HOP.out.later HBQ.out)
    have HR2 := Lib.hid (HEL.out.later HBQ.out)
    go_region_with (first
      | (go_at_call 33; (with_reducible refine (ops_any (w0 := wq) _ _ p2 ops _ hBD hOD HR1.out HLO.out HOF.out (by omega)).mono ?_); rintro e w3 ⟨v3, rfl, hown3, hb3⟩; have e5' := cell_of_box (bx_later hb3 HQ.out) 5 rfl)
      | (go_at_call 33; (with_reducible refine (ops_any (w0 := wq) _ _ _ els _ (by assumption) (by assumption) HR2.out HLE.out HEF.out (by rw [HP3.out]; omega)).mono ?_); rintro e w4 ⟨v4, rfl, hown4, hb4⟩))
    all_goals
      have HO4 := Lib.hid (own_eqB hown4 (by rw [HP3.out, HP4.out]))
      have HB4 := Lib.hid hb4
      have g7 := cell_of_box (bx_later hb4 HQ.out) 7 rfl
      clear hown4 hb4 hOD hBD HO2 HB2 HR1 HR2
      go_wp2_with fail
      refine (put_any _ _ (by omega) (by omega)).mono ?_
      rintro e wc ⟨vc, rfl, hownc, hbc⟩
      have hob := own_later HO4.out hbc
      have hbb := below_call HB4.out (Nat.le_refl _) hbc
      clear hbc
      go_wp2_with (at_builtin; refine wpList_app elB ⟨_, elB.ty, fun k h => nomatch h⟩ rfl _ _ rfl rfl rfl hob (Src.of_rd (Rd.of_own hownc) (by simp)) (oneCell_bytes _) (by unfold maxLen; omega) (by omega) hbb.size ?_; intro v5 w5 hownn hgrown hblkn; have HO5 := Lib.hid (own_eqB (own_bytes hownn (l := p4 ++ put (nh : Int)) (by simp) (by simp)) HP5.out); have HB5 := Lib.hid (below_app hbb (Nat.le_refl _) hob hgrown); clear hownc hob hbb hownn hgrown hblkn HO4 HB4; try clear g7; have e7 := cell_of_box (bx_later HB5.out HQ.out) 7 rfl)
      go_loopw [4, 47] (fun vo vi wr => ∃ (k : Nat) (xs : List UInt8), k ≤ nh ∧ vi = .int .i64 k ∧ Hid (xs = p5 ++ bytesHs (hands.take k)) ∧ Hid (wr.ownsRow wq.heap.size 5 1 vo xs.length (xs.map bc)) ∧ Hid (Below wq.heap.size wq wr)) (fun _ vi _ => nh - (intOf vi).toNat)
      case atStart => exact ⟨0, _, Nat.zero_le _, rfl, (by show _ = _; simp [bytesHs]), HO5.out, HB5.out⟩
      case round =>
        obtain ⟨k, xs, hk, rfl, HX, hown, hb⟩ := hrel
        rename World => wr
        have hxl : xs.length ≤ 10000120 + 640000 * 4000 + 80 * 2000 := by
          have h1 := HTK.out k hk
          rw [HX.out, List.length_append]
          omega
        by_cases hlt : k < nh
        · have hkl : k < hands.length := by have := HNH.out; omega
          obtain ⟨x, hx⟩ : ∃ x, hands[k] = x := ⟨_, rfl⟩
          have hrh : Rd wr (.slice ah nh ch) nh (hands.flatMap HandT.cs) := by have := (HHA.out.later HBQ.out).later hb.out; rwa [HNH.out] at this
          obtain ⟨b, oo, x1, c0, c1, c2, c3, c4, c5, c6, _⟩ := rd_hand hrh HNH.out.symm k hkl hx
          have HHX : Hid (∀ y ∈ x.nums, okI y) := HHO.out x (hx ▸ List.getElem_mem hkl)
          have HNX := Lib.hid (fun p => bytesHs_next hkl hx p)
          have hl6 := numsL_len x.nums
          have hl7 : x.nums.length = 7 := rfl
          clear hx hrh
          go_wp2_with fail
          have hrq : Rd (((wr.alloc (.cells #[.int .i64 x.to, .int .i64 x.kind, .int .i64 x.table, .int .i64 x.col, .int .i64 x.lo, .int .i64 x.hi, .int .i64 x.amt] 67)).alloc (.cells #[.int .i64 x.kind, .int .i64 x.table, .int .i64 x.col, .int .i64 x.lo, .int .i64 x.hi, .int .i64 x.amt] 65)).alloc (.cells #[.int .i64 x.to, .int .i64 x.kind, .int .i64 x.table, .int .i64 x.col, .int .i64 x.lo, .int .i64 x.hi, .int .i64 x.amt] 3)) (.slice (some ⟨wr.heap.size + 2, 0, none⟩) 7 7) 7 (x.nums.map ic) := by
            have := rd_lit ((wr.alloc (.cells #[.int .i64 x.to, .int .i64 x.kind, .int .i64 x.table, .int .i64 x.col, .int .i64 x.lo, .int .i64 x.hi, .int .i64 x.amt] 67)).alloc (.cells #[.int .i64 x.kind, .int .i64 x.table, .int .i64 x.col, .int .i64 x.lo, .int .i64 x.hi, .int .i64 x.amt] 65)) #[.int .i64 x.to, .int .i64 x.kind, .int .i64 x.table, .int .i64 x.col, .int .i64 x.lo, .int .i64 x.hi, .int .i64 x.amt] 3 7 (by decide)
            rw [alloc_size, alloc_size] at this
            exact this
          have hbq : Below wr.heap.size wr (((wr.alloc (.cells #[.int .i64 x.to, .int .i64 x.kind, .int .i64 x.table, .int .i64 x.col, .int .i64 x.lo, .int .i64 x.hi, .int .i64 x.amt] 67)).alloc (.cells #[.int .i64 x.kind, .int .i64 x.table, .int .i64 x.col, .int .i64 x.lo, .int .i64 x.hi, .int .i64 x.amt] 65)).alloc (.cells #[.int .i64 x.to, .int .i64 x.kind, .int .i64 x.table, .int .i64 x.col, .int .i64 x.lo, .int .i64 x.hi, .int .i64 x.amt] 3)) := below_then (below_alloc _ _) (below_then (below_alloc _ _) (below_alloc _ _))
          generalize hWQ : ((wr.alloc (.cells #[.int .i64 x.to, .int .i64 x.kind, .int .i64 x.table, .int .i64 x.col, .int .i64 x.lo, .int .i64 x.hi, .int .i64 x.amt] 67)).alloc (.cells #[.int .i64 x.kind, .int .i64 x.table, .int .i64 x.col, .int .i64 x.lo, .int .i64 x.hi, .int .i64 x.amt] 65)).alloc (.cells #[.int .i64 x.to, .int .i64 x.kind, .int .i64 x.table, .int .i64 x.col, .int .i64 x.lo, .int .i64 x.hi, .int .i64 x.amt] 3) = wx at hrq hbq ⊢
          clear hWQ
          refine (nums_any _ _ _ hrq (by simp [HandT.nums]) HHX.out).mono ?_
          rintro e w2 ⟨v2, rfl, hown2, hb2⟩
          have hw2 : Below wr.heap.size wr w2 := below_then hbq hb2
          have hob := own_later hown.out hw2
          have hbb := below_call hb.out (Nat.le_refl _) hw2
          clear hrq hb2 hbq hw2
          go_wp2_with (at_builtin; refine wpList_app elB ⟨_, elB.ty, fun k h => nomatch h⟩ rfl _ _ rfl rfl rfl hob (Src.of_rd (Rd.of_own hown2) (by simp)) (oneCell_bytes _) (by unfold maxLen; omega) (by omega) hbb.size ?_; intro v3 w3 hown3 hgrow3 hblk3; have HO3 := Lib.hid (own_bytes hown3 (l := xs ++ nums x.nums) (by simp) (by simp)); have HB3 := Lib.hid (below_app hbb (Nat.le_refl _) hob hgrow3); clear hown2 hob hbb hown3 hgrow3 hblk3)
          go_roundw
          case rel => exact ⟨k + 1, _, by omega, by go_num, (by show _ = _; rw [HX.out]; exact HNX.out _), HO3.out, HB3.out⟩
          case measure => simp [intOf]; omega
        · have hkn : k = nh := by omega
          have HK := Lib.hid hkn
          clear hkn
          go_wp2_with fail
          go_ret
          have e : xs = p5 ++ bytesHs hands := by rw [HX.out, HK.out, List.take_of_length_le (by have := HNH.out; omega)]
          rw [← e]
          exact ⟨_, rfl, own_mono0 hown.out HBQ.out.size, below_then HBQ.out hb.out⟩
end Go.Proofs.Ytliokkoalkhpaaa
