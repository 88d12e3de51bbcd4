/-
  Layer 17 (tx): operations' bytes. (printed by tools/gen_ua.py)
-/
import Derived.Test.YtliokkoalkhpaaaTJ
import Derived.Test.YtliokkoalkhpaaaRB
import Derived.Test.YtliokkoalkhpaaaC1U
namespace Go.Proofs.Ytliokkoalkhpaaa
open Go.RowKit Go.Sort Go.BigFrame

theorem own_ne_bx {w : World} {B n q : Nat} {e T : TypeId} {size : Nat} {v : Value} {xs : List Value} {cs : Array Value} (h : w.ownsRow B e size v n xs) (hq : Bx w q cs T) (hT : (e == T) = false) : v.ownBlock ≠ some q := by
  intro hk
  obtain ⟨_, h2⟩ := h
  rcases h2 with ⟨rfl, _⟩ | ⟨g, cap, cur, rfl, _, hg, _⟩
  · cases hk
  · have hgk : g = q := by simpa [Value.ownBlock] using hk
    rw [hgk] at hg
    unfold Bx at hq
    rw [hq] at hg
    injection hg with hg
    injection hg with _ h3 _
    rw [h3] at hT
    simp at hT
/-- An operation that is right, and whose row is of a size that is looked at. -/
def OpT.fit (o : OpT) : Prop := o.ok ∧ o.row.length ≤ 3000
theorem OpT.fit.allR {o : OpT} (h : o.fit) : allR o.row = true := List.all_eq_true.2 h.1.2.1.2
theorem numsL_len (l : List Int) : (nums l).length ≤ 10 + 10 * l.length := by
  unfold nums
  rw [List.length_append]
  have := put_len (l.length : Int)
  have := flat_len l
  omega
theorem bytesR_len (l : List Val) (h : allR l = true) : (bytesR l).length ≤ 10 + 211 * l.length := by
  unfold bytesR putL
  rw [List.length_append]
  have := put_len (l.length : Int)
  have := flatV_len l h
  omega
theorem bytesOp_len {o : OpT} (h : o.fit) : (bytesOp o).length ≤ 640000 := by
  unfold bytesOp
  rw [List.length_append, List.length_append]
  have h1 := numsL_len o.nums
  have h2 := bytesR_len o.row h.allR
  have h3 := (bytesV_len h.1.2.2).2
  have h4 := h.2
  have h5 : o.nums.length = 7 := rfl
  omega
def bytesOps (l : List OpM) : List UInt8 := l.flatMap fun a => bytesOp a.op
theorem bytesOps_len {l : List OpM} (h : ∀ a ∈ l, a.op.fit) : (bytesOps l).length ≤ 640000 * l.length := by
  unfold bytesOps
  induction l with
  | nil => simp
  | cons a l ih =>
    rw [List.flatMap_cons, List.length_append, List.length_cons, Nat.mul_succ]
    have h1 := bytesOp_len (h a List.mem_cons_self)
    have h2 := ih fun b hb => h b (List.mem_cons_of_mem _ hb)
    omega
theorem bytesOps_take {l : List OpM} (h : ∀ a ∈ l, a.op.fit) (k : Nat) (hk : k ≤ l.length) : (bytesOps (l.take k)).length ≤ 640000 * l.length := by
  have h1 := bytesOps_len (l := l.take k) fun a ha => h a (List.mem_of_mem_take ha)
  rw [List.length_take, Nat.min_eq_left hk] at h1
  omega
theorem bytesOps_next {l : List OpM} {k : Nat} (hk : k < l.length) {x : OpM} (hx : l[k] = x) (p : List UInt8) : p ++ bytesOps (l.take k) ++ nums x.op.nums ++ bytesR x.op.row ++ bytesV x.op.val = p ++ bytesOps (l.take (k + 1)) := by
  unfold bytesOps
  rw [List.take_succ_eq_append_getElem hk, List.flatMap_append, hx]
  simp [bytesOp]
theorem putL_ops (l : List OpM) : putL bytesOp (l.map OpM.op) = put l.length ++ bytesOps l := by
  unfold putL bytesOps
  rw [List.length_map, List.flatMap_map]
theorem own_eqB {w : World} {B E : Nat} {v : Value} {xs ys : List UInt8} (h : w.ownsRow B E 1 v xs.length (xs.map bc)) (e : xs = ys) : w.ownsRow B E 1 v ys.length (ys.map bc) := e ▸ h
theorem elNums : El Try.prog 22 3 1 8 (.int .i64 0) := El.mk' (by kernel_rfl) (by kernel_rfl) rfl (by decide)

/-- What a function that appends bytes leaves. -/
def AppB (w0 : World) (B : Nat) (l : List UInt8) (e : Ending) (w' : World) : Prop :=
  ∃ v, e = .returned v ∧ w'.ownsRow B 5 1 v l.length (l.map bc) ∧ Below B w0 w'
theorem below_app {B : Nat} {w0 w w' : World} {e size n : Nat} {v : Value} {xs : List Value} (hb : Below B w0 w) (hB : B ≤ w0.heap.size) (h : w.ownsRow B e size v n xs) (hg : w.grownBy w' v.ownBlock) : Below B w0 w' :=
  hb.grown hg (Nat.le_trans hB hb.size) (fun k hk => (h.lt k hk).1)
theorem below_call {B : Nat} {w0 w w' : World} (hb : Below B w0 w) (hB : B ≤ w0.heap.size) (h : Below w.heap.size w w') : Below B w0 w' := hb.trans (h.mono (Nat.le_trans hB hb.size))
theorem ord_below {w0 w : World} {v : Value} {l : List OpM} (h : ORd w0 v l) (hb : Below w0.heap.size w0 w) : ORd w v l := h.later hb

set_option maxRecDepth 100000 in
set_option maxHeartbeats 4000000 in
theorem ops_any {w0 : World} (vo va : Value) (xs0 : List UInt8) (l : List OpM) (w : World) (hb : Below w0.heap.size w0 w) (ho : w.ownsRow w0.heap.size 5 1 vo xs0.length (xs0.map bc)) (ha : ORd w0 va l) (hn : l.length ≤ 2000) (hf : ∀ a ∈ l, a.op.fit) (hx : xs0.length ≤ 1000000000000) :
    Calls Try.prog 33 #[vo, va] w (AppB w0 w0.heap.size (xs0 ++ putL bytesOp (l.map OpM.op))) := by
  obtain ⟨ao, cc, rfl, hnc, hcm, _, _⟩ := id ha.1
  have HA := Lib.hid ha
  have HF := Lib.hid hf
  obtain ⟨n, hln⟩ : ∃ n, l.length = n := ⟨_, rfl⟩
  have HLN := Lib.hid hln
  have HB := Lib.hid hb
  have HOW := Lib.hid ho
  rw [hln] at hnc hn
  have HFIN : Hid (AppB w0 w0.heap.size (xs0 ++ putL bytesOp (l.map OpM.op)) = AppB w0 w0.heap.size (xs0 ++ put (n : Int) ++ bytesOps l)) := (by show _ = _; rw [putL_ops, HLN.out, List.append_assoc])
  rw [HFIN.out, hln]
  clear hb ho
  unfold maxLen at hcm
  have HFL := Lib.hid (bytesOps_take hf)
  rw [hln] at HFL
  clear ha hln hf HFIN
  go_enter Try.func33, Try.ntmps33
  go_wp2_with fail
  refine (put_any _ _ (by omega) (by omega)).mono ?_
  rintro e w1 ⟨v1, rfl, hown1, hb1⟩
  have hpl := put_len (n : Int)
  have hob := own_later HOW.out hb1
  have hbb := below_call HB.out (Nat.le_refl _) hb1
  go_wp2_with (at_builtin; refine wpList_app elB ⟨_, elB.ty, fun k h => nomatch h⟩ rfl _ _ rfl rfl rfl hob (Src.of_rd (Rd.of_own hown1) (by simp)) (oneCell_bytes _) (by unfold maxLen; omega) (by omega) hbb.size ?_; intro v3 w3 hown3 hgrow3 hblk3)
  have HO3 := Lib.hid (own_bytes hown3 (l := xs0 ++ put (n : Int)) (by simp) (by simp))
  have HB3 := Lib.hid (below_app hbb (Nat.le_refl _) hob hgrow3)
  clear hown1 hb1 hob hbb hown3 hgrow3 hblk3
  go_loopw [0, 14] (fun vo vi wr => ∃ (k : Nat) (xs : List UInt8), k ≤ n ∧ vi = .int .i64 k ∧ Hid (xs = (xs0 ++ put (n : Int)) ++ bytesOps (l.take k)) ∧ Hid (wr.ownsRow w0.heap.size 5 1 vo xs.length (xs.map bc)) ∧ Hid (Below w0.heap.size w0 wr)) (fun _ vi _ => n - (intOf vi).toNat)
  case atStart => exact ⟨0, _, Nat.zero_le _, rfl, (by show _ = _; simp [bytesOps]), HO3.out, HB3.out⟩
  case round =>
    obtain ⟨k, xs, hk, rfl, HX, hown, hb⟩ := hrel
    rename World => wr
    have hxl : xs.length ≤ 1000000000010 + 640000 * 2000 := by
      have h1 := HFL.out k (by have := HLN.out; omega)
      rw [HX.out]
      simp only [List.length_append]
      omega
    by_cases hlt : k < n
    · have hkl : k < l.length := by have := HLN.out; omega
      obtain ⟨x, hx⟩ : ∃ x, l[k] = x := ⟨_, rfl⟩
      obtain ⟨b, oo, x1, c0, c1, c2, c3, c4, c5, c6, c7, c8, c9, c10, _⟩ := rd_op (HA.out.later hb.out).1 rfl k hkl hx
      rw [HLN.out] at x1
      have hrd : Rd wr x.rv x.op.row.length (rowCs x.op.row) := (HA.out.later hb.out).2 x (hx ▸ List.getElem_mem hkl)
      obtain ⟨ra, rc, hrv, -, hrm, -, -⟩ := id hrd
      unfold maxLen at hrm
      rw [hrv] at c4 hrd
      have hrw : Rd w0 x.rv x.op.row.length (rowCs x.op.row) := HA.out.2 x (hx ▸ List.getElem_mem hkl)
      rw [hrv] at hrw
      have HRD := Lib.hid hrw
      have hfit : x.op.fit := HF.out x (hx ▸ List.getElem_mem hkl)
      have HFIT := Lib.hid hfit
      have HNX := Lib.hid (fun p => bytesOps_next hkl hx p)
      have hl1 := numsL_len x.op.nums
      have hl2 := bytesR_len x.op.row hfit.allR
      have hl3 := (bytesV_len hfit.1.2.2).2
      have hl4 := hfit.2
      have hl5 : x.op.nums.length = 7 := rfl
      clear hx hrv hrd hfit hrw
      go_wp2_with fail
      have hrq : Rd ((wr.alloc (.cells #[.int .i64 x.op.kind, .int .i64 x.op.table, .int .i64 x.op.key, .int .i64 x.op.col, .slice ra x.op.row.length rc, .int .i64 x.op.val.k, .int .i64 x.op.val.n, .string x.op.val.s, .int .i64 x.op.after.1, .int .i64 x.op.after.2, .int .i64 x.op.at_] 89)).alloc (.cells #[.int .i64 x.op.kind, .int .i64 x.op.table, .int .i64 x.op.key, .int .i64 x.op.col, .int .i64 x.op.after.1, .int .i64 x.op.after.2, .int .i64 x.op.at_] 3)) (.slice (some ⟨wr.heap.size + 1, 0, none⟩) 7 7) x.op.nums.length (x.op.nums.map ic) := by
        have := rd_lit (wr.alloc (.cells #[.int .i64 x.op.kind, .int .i64 x.op.table, .int .i64 x.op.key, .int .i64 x.op.col, .slice ra x.op.row.length rc, .int .i64 x.op.val.k, .int .i64 x.op.val.n, .string x.op.val.s, .int .i64 x.op.after.1, .int .i64 x.op.after.2, .int .i64 x.op.at_] 89)) #[.int .i64 x.op.kind, .int .i64 x.op.table, .int .i64 x.op.key, .int .i64 x.op.col, .int .i64 x.op.after.1, .int .i64 x.op.after.2, .int .i64 x.op.at_] 3 7 (by decide)
        rw [alloc_size] at this
        exact this
      have hq0 : Bx ((wr.alloc (.cells #[.int .i64 x.op.kind, .int .i64 x.op.table, .int .i64 x.op.key, .int .i64 x.op.col, .slice ra x.op.row.length rc, .int .i64 x.op.val.k, .int .i64 x.op.val.n, .string x.op.val.s, .int .i64 x.op.after.1, .int .i64 x.op.after.2, .int .i64 x.op.at_] 89)).alloc (.cells #[.int .i64 x.op.kind, .int .i64 x.op.table, .int .i64 x.op.key, .int .i64 x.op.col, .int .i64 x.op.after.1, .int .i64 x.op.after.2, .int .i64 x.op.at_] 3)) wr.heap.size #[.int .i64 x.op.kind, .int .i64 x.op.table, .int .i64 x.op.key, .int .i64 x.op.col, .slice ra x.op.row.length rc, .int .i64 x.op.val.k, .int .i64 x.op.val.n, .string x.op.val.s, .int .i64 x.op.after.1, .int .i64 x.op.after.2, .int .i64 x.op.at_] 89 := bx_later (below_alloc _ _) (bx_new rfl)
      have hbq : Below wr.heap.size wr ((wr.alloc (.cells #[.int .i64 x.op.kind, .int .i64 x.op.table, .int .i64 x.op.key, .int .i64 x.op.col, .slice ra x.op.row.length rc, .int .i64 x.op.val.k, .int .i64 x.op.val.n, .string x.op.val.s, .int .i64 x.op.after.1, .int .i64 x.op.after.2, .int .i64 x.op.at_] 89)).alloc (.cells #[.int .i64 x.op.kind, .int .i64 x.op.table, .int .i64 x.op.key, .int .i64 x.op.col, .int .i64 x.op.after.1, .int .i64 x.op.after.2, .int .i64 x.op.at_] 3)) := below_then (below_alloc _ _) (below_alloc _ _)
      generalize hWQ : (wr.alloc (.cells #[.int .i64 x.op.kind, .int .i64 x.op.table, .int .i64 x.op.key, .int .i64 x.op.col, .slice ra x.op.row.length rc, .int .i64 x.op.val.k, .int .i64 x.op.val.n, .string x.op.val.s, .int .i64 x.op.after.1, .int .i64 x.op.after.2, .int .i64 x.op.at_] 89)).alloc (.cells #[.int .i64 x.op.kind, .int .i64 x.op.table, .int .i64 x.op.key, .int .i64 x.op.col, .int .i64 x.op.after.1, .int .i64 x.op.after.2, .int .i64 x.op.at_] 3) = wq at hrq hq0 hbq ⊢
      clear hWQ
      refine (nums_any _ _ _ hrq (by omega) HFIT.out.1.1).mono ?_
      rintro e w2 ⟨v2, rfl, hown2, hb2⟩
      have hw2 : Below wr.heap.size wr w2 := below_then hbq hb2
      have hob := own_later hown.out hw2
      have hbb := below_call hb.out (Nat.le_refl _) hw2
      have HQ2 := Lib.hid (bx_later hb2 hq0)
      clear hrq hq0 hb2 hbq
      go_wp2_with (at_builtin; refine wpList_app elB ⟨_, elB.ty, fun k h => nomatch h⟩ rfl _ _ rfl rfl rfl hob (Src.of_rd (Rd.of_own hown2) (by simp)) (oneCell_bytes _) (by unfold maxLen; omega) (by omega) hbb.size ?_; intro v3 w3 hown3 hgrow3 hblk3; have HQ3 := Lib.hid (bx_grown hgrow3 HQ2.out (own_ne_bx hob HQ2.out (by decide))); have HO3 := Lib.hid (own_bytes hown3 (l := xs ++ nums x.op.nums) (by simp) (by simp)); have HB3 := Lib.hid (below_app hbb (Nat.le_refl _) hob hgrow3); have e4 := cell_of_box HQ3.out 4 rfl; clear hown2 hob hbb hown3 hgrow3 hblk3 HQ2)
      refine (bytesR_any _ _ _ (HRD.out.later HB3.out) (by omega) HFIT.out.allR).mono ?_
      rintro e w4 ⟨v4, rfl, hown4, hb4⟩
      have hob := own_later HO3.out hb4
      have hbb := below_call HB3.out (Nat.le_refl _) hb4
      have HQ4 := Lib.hid (bx_later hb4 HQ3.out)
      clear hb4 HQ3 e4 HO3 HB3
      go_wp2_with (at_builtin; refine wpList_app elB ⟨_, elB.ty, fun k h => nomatch h⟩ rfl _ _ rfl rfl rfl hob (Src.of_rd (Rd.of_own hown4) (by simp)) (oneCell_bytes _) (by unfold maxLen; simp only [List.length_append]; omega) (by simp only [List.length_append]; omega) hbb.size ?_; intro v5 w5 hown5 hgrow5 hblk5; have HQ5 := Lib.hid (bx_grown hgrow5 HQ4.out (own_ne_bx hob HQ4.out (by decide))); have HO5 := Lib.hid (own_bytes hown5 (l := xs ++ nums x.op.nums ++ bytesR x.op.row) (by simp [Nat.add_assoc]) (by simp)); have HB5 := Lib.hid (below_app hbb (Nat.le_refl _) hob hgrow5); have e5 := cell_of_box HQ5.out 5 rfl; have e6 := cell_of_box HQ5.out 6 rfl; have e7 := cell_of_box HQ5.out 7 rfl; clear hown4 hob hbb hown5 hgrow5 hblk5 HQ4)
      refine (bytesV_any x.op.val _ HFIT.out.1.2.2).mono ?_
      rintro e w6 ⟨v6, rfl, hown6, hb6⟩
      have hob := own_later HO5.out hb6
      have hbb := below_call HB5.out (Nat.le_refl _) hb6
      clear hb6 HQ5 e5 e6 e7 HO5 HB5
      go_wp2_with (at_builtin; refine wpList_app elB ⟨_, elB.ty, fun k h => nomatch h⟩ rfl _ _ rfl rfl rfl hob (Src.of_rd (Rd.of_own hown6) (by simp)) (oneCell_bytes _) (by unfold maxLen; simp only [List.length_append]; omega) (by simp only [List.length_append]; omega) hbb.size ?_; intro v7 w7 hown7 hgrow7 hblk7; have HO7 := Lib.hid (own_bytes hown7 (l := xs ++ nums x.op.nums ++ bytesR x.op.row ++ bytesV x.op.val) (by simp [Nat.add_assoc]) (by simp)); have HB7 := Lib.hid (below_app hbb (Nat.le_refl _) hob hgrow7); clear hown6 hob hbb hown7 hgrow7 hblk7)
      go_roundw
      case rel => exact ⟨k + 1, _, by omega, by go_num, (by show _ = _; rw [HX.out]; exact HNX.out _), HO7.out, HB7.out⟩
      case measure => simp [intOf]; omega
    · have hkn : k = n := by omega
      have HK := Lib.hid hkn
      clear hkn
      go_wp2_with fail
      go_ret
      have e : xs = (xs0 ++ put (n : Int)) ++ bytesOps l := by rw [HX.out, HK.out, List.take_of_length_le (by have := HLN.out; omega)]
      rw [← e]
      exact ⟨_, rfl, hown.out, hb.out⟩

set_option maxRecDepth 100000 in
set_option maxHeartbeats 4000000 in
theorem refOps_any (va : Value) (l : List OpM) (w : World) (ha : ORd w va l) (hn : l.length ≤ 2000) (hf : ∀ a ∈ l, a.op.fit) :
    Calls Try.prog 36 #[va] w (OwnB w (putL bytesOp (l.map OpM.op))) := by
  obtain ⟨ao, cc, rfl, hnc, hcm, _, _⟩ := id ha.1
  have HA := Lib.hid ha
  have HF := Lib.hid hf
  obtain ⟨n, hln⟩ : ∃ n, l.length = n := ⟨_, rfl⟩
  have HLN := Lib.hid hln
  rw [hln] at hnc hn
  have HFIN : Hid (OwnB w (putL bytesOp (l.map OpM.op)) = OwnB w (put (n : Int) ++ bytesOps l)) := (by show _ = _; rw [putL_ops, HLN.out])
  rw [HFIN.out, hln]
  unfold maxLen at hcm
  have HFL := Lib.hid (bytesOps_take hf)
  rw [hln] at HFL
  clear ha hln hf HFIN
  go_enter Try.func36, Try.ntmps36
  go_wp2_with fail
  refine (refPut_any _ _ (by omega) (by omega)).mono ?_
  rintro e w1 ⟨v1, rfl, hown1, hb1⟩
  have hpl := put_len (n : Int)
  have HO3 := Lib.hid hown1
  have HB3 := Lib.hid hb1
  clear hown1 hb1
  go_wp2_with fail
  go_loopw [3, 4] (fun vo vi wr => ∃ (k : Nat) (xs : List UInt8), k ≤ n ∧ vi = .int .i64 k ∧ Hid (xs = (put (n : Int)) ++ bytesOps (l.take k)) ∧ Hid (wr.ownsRow w.heap.size 5 1 vo xs.length (xs.map bc)) ∧ Hid (Below w.heap.size w wr)) (fun _ vi _ => n - (intOf vi).toNat)
  case atStart => exact ⟨0, _, Nat.zero_le _, rfl, (by show _ = _; simp [bytesOps]), HO3.out, HB3.out⟩
  case round =>
    obtain ⟨k, xs, hk, rfl, HX, hown, hb⟩ := hrel
    rename World => wr
    have hxl : xs.length ≤ 1000000000010 + 640000 * 2000 := by
      have h1 := HFL.out k (by have := HLN.out; omega)
      rw [HX.out]
      simp only [List.length_append]
      omega
    by_cases hlt : k < n
    · have hkl : k < l.length := by have := HLN.out; omega
      obtain ⟨x, hx⟩ : ∃ x, l[k] = x := ⟨_, rfl⟩
      obtain ⟨b, oo, x1, c0, c1, c2, c3, c4, c5, c6, c7, c8, c9, c10, _⟩ := rd_op (HA.out.later hb.out).1 rfl k hkl hx
      rw [HLN.out] at x1
      have hrd : Rd wr x.rv x.op.row.length (rowCs x.op.row) := (HA.out.later hb.out).2 x (hx ▸ List.getElem_mem hkl)
      obtain ⟨ra, rc, hrv, -, hrm, -, -⟩ := id hrd
      unfold maxLen at hrm
      rw [hrv] at c4 hrd
      have hrw : Rd w x.rv x.op.row.length (rowCs x.op.row) := HA.out.2 x (hx ▸ List.getElem_mem hkl)
      rw [hrv] at hrw
      have HRD := Lib.hid hrw
      have hfit : x.op.fit := HF.out x (hx ▸ List.getElem_mem hkl)
      have HFIT := Lib.hid hfit
      have HNX := Lib.hid (fun p => bytesOps_next hkl hx p)
      have hl1 := numsL_len x.op.nums
      have hl2 := bytesR_len x.op.row hfit.allR
      have hl3 := (bytesV_len hfit.1.2.2).2
      have hl4 := hfit.2
      have hl5 : x.op.nums.length = 7 := rfl
      clear hx hrv hrd hfit hrw
      go_wp2_with fail
      have hrq : Rd ((wr.alloc (.cells #[.int .i64 x.op.kind, .int .i64 x.op.table, .int .i64 x.op.key, .int .i64 x.op.col, .slice ra x.op.row.length rc, .int .i64 x.op.val.k, .int .i64 x.op.val.n, .string x.op.val.s, .int .i64 x.op.after.1, .int .i64 x.op.after.2, .int .i64 x.op.at_] 89)).alloc (.cells #[.int .i64 x.op.kind, .int .i64 x.op.table, .int .i64 x.op.key, .int .i64 x.op.col, .int .i64 x.op.after.1, .int .i64 x.op.after.2, .int .i64 x.op.at_] 3)) (.slice (some ⟨wr.heap.size + 1, 0, none⟩) 7 7) x.op.nums.length (x.op.nums.map ic) := by
        have := rd_lit (wr.alloc (.cells #[.int .i64 x.op.kind, .int .i64 x.op.table, .int .i64 x.op.key, .int .i64 x.op.col, .slice ra x.op.row.length rc, .int .i64 x.op.val.k, .int .i64 x.op.val.n, .string x.op.val.s, .int .i64 x.op.after.1, .int .i64 x.op.after.2, .int .i64 x.op.at_] 89)) #[.int .i64 x.op.kind, .int .i64 x.op.table, .int .i64 x.op.key, .int .i64 x.op.col, .int .i64 x.op.after.1, .int .i64 x.op.after.2, .int .i64 x.op.at_] 3 7 (by decide)
        rw [alloc_size] at this
        exact this
      have hq0 : Bx ((wr.alloc (.cells #[.int .i64 x.op.kind, .int .i64 x.op.table, .int .i64 x.op.key, .int .i64 x.op.col, .slice ra x.op.row.length rc, .int .i64 x.op.val.k, .int .i64 x.op.val.n, .string x.op.val.s, .int .i64 x.op.after.1, .int .i64 x.op.after.2, .int .i64 x.op.at_] 89)).alloc (.cells #[.int .i64 x.op.kind, .int .i64 x.op.table, .int .i64 x.op.key, .int .i64 x.op.col, .int .i64 x.op.after.1, .int .i64 x.op.after.2, .int .i64 x.op.at_] 3)) wr.heap.size #[.int .i64 x.op.kind, .int .i64 x.op.table, .int .i64 x.op.key, .int .i64 x.op.col, .slice ra x.op.row.length rc, .int .i64 x.op.val.k, .int .i64 x.op.val.n, .string x.op.val.s, .int .i64 x.op.after.1, .int .i64 x.op.after.2, .int .i64 x.op.at_] 89 := bx_later (below_alloc _ _) (bx_new rfl)
      have hbq : Below wr.heap.size wr ((wr.alloc (.cells #[.int .i64 x.op.kind, .int .i64 x.op.table, .int .i64 x.op.key, .int .i64 x.op.col, .slice ra x.op.row.length rc, .int .i64 x.op.val.k, .int .i64 x.op.val.n, .string x.op.val.s, .int .i64 x.op.after.1, .int .i64 x.op.after.2, .int .i64 x.op.at_] 89)).alloc (.cells #[.int .i64 x.op.kind, .int .i64 x.op.table, .int .i64 x.op.key, .int .i64 x.op.col, .int .i64 x.op.after.1, .int .i64 x.op.after.2, .int .i64 x.op.at_] 3)) := below_then (below_alloc _ _) (below_alloc _ _)
      generalize hWQ : (wr.alloc (.cells #[.int .i64 x.op.kind, .int .i64 x.op.table, .int .i64 x.op.key, .int .i64 x.op.col, .slice ra x.op.row.length rc, .int .i64 x.op.val.k, .int .i64 x.op.val.n, .string x.op.val.s, .int .i64 x.op.after.1, .int .i64 x.op.after.2, .int .i64 x.op.at_] 89)).alloc (.cells #[.int .i64 x.op.kind, .int .i64 x.op.table, .int .i64 x.op.key, .int .i64 x.op.col, .int .i64 x.op.after.1, .int .i64 x.op.after.2, .int .i64 x.op.at_] 3) = wq at hrq hq0 hbq ⊢
      clear hWQ
      refine (refNums_any _ _ _ hrq (by omega) HFIT.out.1.1).mono ?_
      rintro e w2 ⟨v2, rfl, hown2, hb2⟩
      have hw2 : Below wr.heap.size wr w2 := below_then hbq hb2
      have hob := own_later hown.out hw2
      have hbb := below_call hb.out (Nat.le_refl _) hw2
      have HQ2 := Lib.hid (bx_later hb2 hq0)
      clear hrq hq0 hb2 hbq
      go_wp2_with (at_builtin; refine wpList_app elB ⟨_, elB.ty, fun k h => nomatch h⟩ rfl _ _ rfl rfl rfl hob (Src.of_rd (Rd.of_own hown2) (by simp)) (oneCell_bytes _) (by unfold maxLen; omega) (by omega) hbb.size ?_; intro v3 w3 hown3 hgrow3 hblk3; have HQ3 := Lib.hid (bx_grown hgrow3 HQ2.out (own_ne_bx hob HQ2.out (by decide))); have HO3 := Lib.hid (own_bytes hown3 (l := xs ++ nums x.op.nums) (by simp) (by simp)); have HB3 := Lib.hid (below_app hbb (Nat.le_refl _) hob hgrow3); have e4 := cell_of_box HQ3.out 4 rfl; clear hown2 hob hbb hown3 hgrow3 hblk3 HQ2)
      refine (refBytesR_any _ _ _ (HRD.out.later HB3.out) (by omega) HFIT.out.allR).mono ?_
      rintro e w4 ⟨v4, rfl, hown4, hb4⟩
      have hob := own_later HO3.out hb4
      have hbb := below_call HB3.out (Nat.le_refl _) hb4
      have HQ4 := Lib.hid (bx_later hb4 HQ3.out)
      clear hb4 HQ3 e4 HO3 HB3
      go_wp2_with (at_builtin; refine wpList_app elB ⟨_, elB.ty, fun k h => nomatch h⟩ rfl _ _ rfl rfl rfl hob (Src.of_rd (Rd.of_own hown4) (by simp)) (oneCell_bytes _) (by unfold maxLen; simp only [List.length_append]; omega) (by simp only [List.length_append]; omega) hbb.size ?_; intro v5 w5 hown5 hgrow5 hblk5; have HQ5 := Lib.hid (bx_grown hgrow5 HQ4.out (own_ne_bx hob HQ4.out (by decide))); have HO5 := Lib.hid (own_bytes hown5 (l := xs ++ nums x.op.nums ++ bytesR x.op.row) (by simp [Nat.add_assoc]) (by simp)); have HB5 := Lib.hid (below_app hbb (Nat.le_refl _) hob hgrow5); have e5 := cell_of_box HQ5.out 5 rfl; have e6 := cell_of_box HQ5.out 6 rfl; have e7 := cell_of_box HQ5.out 7 rfl; clear hown4 hob hbb hown5 hgrow5 hblk5 HQ4)
      refine (refBytesV_any x.op.val _ HFIT.out.1.2.2).mono ?_
      rintro e w6 ⟨v6, rfl, hown6, hb6⟩
      have hob := own_later HO5.out hb6
      have hbb := below_call HB5.out (Nat.le_refl _) hb6
      clear hb6 HQ5 e5 e6 e7 HO5 HB5
      go_wp2_with (at_builtin; refine wpList_app elB ⟨_, elB.ty, fun k h => nomatch h⟩ rfl _ _ rfl rfl rfl hob (Src.of_rd (Rd.of_own hown6) (by simp)) (oneCell_bytes _) (by unfold maxLen; simp only [List.length_append]; omega) (by simp only [List.length_append]; omega) hbb.size ?_; intro v7 w7 hown7 hgrow7 hblk7; have HO7 := Lib.hid (own_bytes hown7 (l := xs ++ nums x.op.nums ++ bytesR x.op.row ++ bytesV x.op.val) (by simp [Nat.add_assoc]) (by simp)); have HB7 := Lib.hid (below_app hbb (Nat.le_refl _) hob hgrow7); clear hown6 hob hbb hown7 hgrow7 hblk7)
      go_roundw
      case rel => exact ⟨k + 1, _, by omega, by go_num, (by show _ = _; rw [HX.out]; exact HNX.out _), HO7.out, HB7.out⟩
      case measure => simp [intOf]; omega
    · have hkn : k = n := by omega
      have HK := Lib.hid hkn
      clear hkn
      go_wp2_with fail
      go_ret
      have e : xs = (put (n : Int)) ++ bytesOps l := by rw [HX.out, HK.out, List.take_of_length_le (by have := HLN.out; omega)]
      rw [← e]
      exact ⟨_, rfl, hown.out, hb.out⟩
end Go.Proofs.Ytliokkoalkhpaaa
