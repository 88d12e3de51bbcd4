/-
  The law PastBoth. (printed by tools/gen_l20.py)
-/
import Derived.Test.YtnolbabpkhdpmaaN5
namespace Go.Proofs.Ytnolbabpkhdpmaa.pastBoth
open Go.ChangeShapes Go.WideShapes Go.ChangeAt Go.RowKit Go.Sort Go.BigFrame Go.Proofs.Ytnolbabpkhdpmaa
open Go.ChangeMaps (open_string shut_string)
attribute [local irreducible] FlowW

theorem ofV_v {v : Value} {l : List Int} {d f : Int} {w : World} (hf : ofV l d = f) (h : Rd w v l.length (l.map ic)) : Calls Try.prog 10 #[v, .int .i64 d] w fun e w' => e = .returned (.int .i64 f) ∧ w = w' := hf ▸ ofV_any v l d w h
theorem few_b {va : Value} {l : List TxS} {w : World} (r : Bool) (hr : fewL 20 l = r) (ha : LRd w va l) : Calls Try.prog 8 #[va] w fun e w' => e = .returned (.bool r) ∧ Below w.heap.size w w' := hr ▸ few20_any w ha
theorem closed_b {vv vl : Value} {line : List Int} {last : Int} {l : List TxS} {w : World} (r : Bool) (hr : closedT line last l = r) (hv : Rd w vv line.length (line.map ic)) (hl : LRd w vl l) (hwr : ∀ d, -9223372036854775808 ≤ ofV line d) (hn : l.length ≤ 1000000) :
    Calls Try.prog 9 #[vv, .int .i64 last, vl] w fun e w' => e = .returned (.bool r) ∧ Below w.heap.size w w' := hr ▸ closed_any w hv hl hwr hn
theorem vSame_b {va vb : Value} {a b : List Int} {w : World} (r : Bool) (hr : sameB a b = r) (ha : Rd w va a.length (a.map ic)) (hb : Rd w vb b.length (b.map ic)) :
    Calls Try.prog 14 #[va, vb] w fun e w' => e = .returned (.bool r) ∧ w = w' := hr ▸ vSame_any va vb a b w ha hb
theorem eqDotT (a b c d : Int) (W : World) : (Op.equalIn 10000 43 (.agg #[.int .i64 a, .int .i64 b]) (.agg #[.int .i64 c, .int .i64 d])).run Try.prog W = .ok (a == c && b == d) W := run_eqDot a b c d W
attribute [local go_sem] eqDotT
def dotQ (y x : TxS) : Bool := (x.dev == y.dev) && (x.seq == y.seq)
def bothT (A B : List TxS) : List TxS := A ++ B.filter fun y => !A.any (dotQ y)
theorem bothT_new {A B : List TxS} {y : TxS} (h : A.any (dotQ y) = false) : bothT A (B ++ [y]) = bothT A B ++ [y] := by
  unfold bothT
  rw [List.filter_append, List.append_assoc]
  simp [h]
theorem bothT_old {A B : List TxS} {y : TxS} (h : A.any (dotQ y) = true) : bothT A (B ++ [y]) = bothT A B := by
  unfold bothT
  rw [List.filter_append]
  simp [h]
theorem bothT_len (A B : List TxS) : (bothT A B).length ≤ A.length + B.length := by
  unfold bothT
  rw [List.length_append]
  have := List.length_filter_le (fun y => !A.any (dotQ y)) B
  omega
theorem dotQ_iff {x y : TxS} : dotQ y x = true ↔ x.dev = y.dev ∧ x.seq = y.seq := by unfold dotQ; simp
theorem bothT_mem {l : List TxS} {d1 d2 : List Int} (hn : Nd l) {x : TxS} : x ∈ bothT (pastT l d1) (pastT l d2) ↔ x ∈ pastT l d1 ∨ x ∈ pastT l d2 := by
  unfold bothT
  rw [List.mem_append, List.mem_filter]
  constructor
  · rintro (h | h)
    · exact .inl h
    · exact .inr h.1
  · rintro (h | h)
    · exact .inl h
    · cases hq : (pastT l d1).any (dotQ x)
      · exact .inr ⟨h, by simp⟩
      · obtain ⟨a, ha, hd⟩ := List.any_eq_true.1 hq
        have hd := dotQ_iff.1 hd
        have := hn.eq (pastT_iff.1 ha).1 (pastT_iff.1 h).1 hd.1 hd.2
        exact .inl (this ▸ ha)
theorem bothT_nd {l : List TxS} {d1 d2 : List Int} (hn : Nd l) : Nd (bothT (pastT l d1) (pastT l d2)) := by
  refine List.pairwise_append.2 ⟨(nd_ord hn).sub List.filter_sublist, ((nd_ord hn).sub List.filter_sublist).sub List.filter_sublist, fun a ha b hb he => ?_⟩
  have hb := (List.mem_filter.1 hb).2
  rw [Bool.not_eq_true', List.any_eq_false] at hb
  exact hb a ha (dotQ_iff.2 he)
theorem knownT_len (line : List Int) (l : List TxS) : (knownT line l).length ≤ 100000 := by
  unfold knownT
  have := trimL_len (knownL line l 64)
  rw [knownL_len] at this
  omega
set_option maxRecDepth 100000 in
set_option maxHeartbeats 16000000 in
theorem walk (v0 : Value) (line : List Int) (last : Int) (v2 : Value) (l : List TxS) (ai ak : Int) (w : World) (hv : Rd w v0 line.length (line.map ic)) (hw : ∀ d, -9223372036854775808 ≤ ofV line d) (_ : -9223372036854775808 ≤ last ∧ last ≤ 9223372036854775807) (hl : LRd w v2 l) (hbd : ∀ x ∈ l, x.Bd) (hai : 0 ≤ ai ∧ ai ≤ 255) (hak : 0 ≤ ak ∧ ak ≤ 255) :
    Calls Try.prog 6 #[v0, .int .i64 last, v2, .int .u8 ai, .int .u8 ak] w fun e w' => e = .returned (.bool true) ∧ Below w.heap.size w w' := by
  obtain ⟨ga, gc, ev0, hn1v0, hn2v0, -, -⟩ := id hv
  unfold maxLen at hn2v0
  obtain ⟨m, hlm⟩ : ∃ m, line.length = m := ⟨_, rfl⟩
  rw [hlm] at ev0 hn1v0
  subst ev0
  have HLm := Lib.hid hlm
  clear hlm
  obtain ⟨la, lc, ev2, hn1v2, hn2v2, -, -⟩ := id hl.1
  unfold maxLen at hn2v2
  obtain ⟨n, hln⟩ : ∃ n, l.length = n := ⟨_, rfl⟩
  rw [hln] at ev2 hn1v2
  subst ev2
  have HLn := Lib.hid hln
  clear hln
  have HV := Lib.hid hv
  have HW := Lib.hid hw
  have HL := Lib.hid hl
  have HBD := Lib.hid hbd
  clear hv hw hl hbd
  go_enter Try.func6, Try.ntmps6
  go_wp2_with fail
  refine (awk_any _).mono ?_
  rintro e w1 ⟨rfl, hb⟩
  have HB := Lib.hid hb
  clear hb
  cases hf : fewL 20 l
  · have HF := Lib.hid hf
    clear hf
    go_wp2_with fail
    refine (few_b false HF.out (HL.out.later HB.out)).mono ?_
    rintro e wn ⟨rfl, hb⟩
    replace HB := Lib.hid (below_then HB.out hb)
    clear hb
    go_wp2_with fail
    go_ret
    exact ⟨rfl, HB.out⟩
  have HF := Lib.hid hf
  have hff := fewL_facts hf
  have hn20 : n ≤ 20 := by have := hff.1; have := HLn.out; omega
  have HFF := Lib.hid hff.2
  clear hf hff
  go_wp2_with fail
  refine (few_b true HF.out (HL.out.later HB.out)).mono ?_
  rintro e wn ⟨rfl, hb⟩
  replace HB := Lib.hid (below_then HB.out hb)
  clear hb
  by_cases hm : m ≤ 100
  case neg =>
    have hm1 : decide ((100 : Int) < (m : Int)) = true := decide_eq_true (by omega)
    have hm2 : decide (100 < m) = true := decide_eq_true (by omega)
    go_wp2_with fail
    go_ret
    exact ⟨rfl, HB.out⟩
  have hm1 : decide ((100 : Int) < (m : Int)) = false := decide_eq_false (by omega)
  have hm2 : decide (100 < m) = false := decide_eq_false (by omega)
  by_cases hn0 : n = 0
  · have hn1' : ((n : Int) == 0) = true := by simp [hn0]
    have hn2' : (n == 0) = true := by simp [hn0]
    clear hn0
    go_wp2_with fail
    go_ret
    exact ⟨rfl, HB.out⟩
  have hn1' : ((n : Int) == 0) = false := by simp [hn0]
  have hn2' : (n == 0) = false := by simp [hn0]
  cases hc : closedT line last l
  · have HC := Lib.hid hc
    clear hc
    go_wp2_with fail
    refine (closed_b false HC.out (HV.out.later HB.out) (HL.out.later HB.out) HW.out (by have := HLn.out; omega)).mono ?_
    rintro e wn ⟨rfl, hb⟩
    replace HB := Lib.hid (below_then HB.out hb)
    clear hb
    go_wp2_with fail
    go_ret
    exact ⟨rfl, HB.out⟩
  have HC := Lib.hid hc
  have HCL := Lib.hid (closed_iff.1 hc)
  clear hc
  go_wp2_with fail
  refine (closed_b true HC.out (HV.out.later HB.out) (HL.out.later HB.out) HW.out (by have := HLn.out; omega)).mono ?_
  rintro e wn ⟨rfl, hb⟩
  replace HB := Lib.hid (below_then HB.out hb)
  clear hb
  clear hm1 hm2
  go_wp2_with fail
  have HB0 := HB
  clear HB
  go_loopw [12] (fun vi wr => ∃ k : Nat, k ≤ n ∧ vi = .int .i64 k ∧ Hid (∀ j : Nat, j < k → ofV line (l.getD j default).dev < (l.getD j default).seq) ∧ Hid (Below wn.heap.size wn wr)) (fun vi _ => n - (intOf vi).toNat)
  case atStart => exact ⟨0, Nat.zero_le _, by go_num, (fun j hj => absurd hj (by omega)), Below.refl _ _⟩
  case round =>
    obtain ⟨k, hk, rfl, hall, HBL⟩ := hrel
    rename World => wr
    by_cases hlt : k < n
    · have hkl : k < l.length := by have := HLn.out; omega
      have hk2 : (k : Int) < (n : Int) := by omega
      have hk0 : (0 : Int) ≤ (k : Int) := by omega
      obtain ⟨x, hx⟩ : ∃ x, l[k] = x := ⟨_, rfl⟩
      have hlr := (HL.out.later (below_then HB0.out HBL.out)).1
      rw [HLn.out] at hlr
      obtain ⟨b, oo, x1, c0, c1, -⟩ := rd_txs hlr HLn.out.symm k hkl hx
      have HX : Hid (l.getD k default = x) := by show _ = _; rw [List.getD_eq_getElem?_getD, List.getElem?_eq_getElem hkl]; simp [hx]
      obtain ⟨f, hf⟩ : ∃ f, ofV line x.dev = f := ⟨_, rfl⟩
      have HF0 := Lib.hid hf
      clear hx hf hkl hlr
      go_wp2_with fail
      refine wp_region_flow (by kernel_rfl) 13 [(11, ⟨fun v => v = .int .i64 f, fun _ _ _ _ => True⟩)] (by kernel_rfl) ?_ ?_ ?_
      · intro x hx
        simp only [List.mem_cons, List.not_mem_nil, or_false] at hx
        subst hx
        exact ⟨_, rfl⟩
      · intro x hx v lo hi w w' h hb
        simp only [List.mem_cons, List.not_mem_nil, or_false] at hx
        subst hx
        exact trivial
      · intro lo hi
        have kc0 := cell_regrown c0
        have kc1 := cell_regrown c1
        refine flowW_plain rfl ?_
        go_big_quiet_step (fail)
        refine wpQuiet_nil ?_
        refine flowW_plain rfl ?_
        go_big_quiet_step (fail)
        refine wpQuiet_nil ?_
        refine flowW_plain rfl ?_
        go_big_quiet_step (fail)
        refine wpQuiet_nil ?_
        refine flowW_plain rfl ?_
        go_big_quiet_step (fail)
        refine wpQuiet_nil ?_
        refine flowW_plain rfl ?_
        go_big_quiet_step (fail)
        refine wpQuiet_nil ?_
        refine flowW_plain rfl ?_
        go_big_quiet_step (fail)
        refine wpQuiet_nil ?_
        refine flowW_plain rfl ?_
        go_big_quiet_step (fail)
        refine wpQuiet_nil ?_
        refine flowW_plain rfl ?_
        go_big_quiet_step (fail)
        refine wpQuiet_nil ?_
        refine flowW_plain rfl ?_
        go_big_quiet_step (fail)
        refine wpQuiet_nil ?_
        refine flowW_plain rfl ?_
        go_big_quiet_step (fail)
        refine wpQuiet_nil ?_
        refine flowW_plain rfl ?_
        go_big_quiet_step (fail)
        refine wpQuiet_nil ?_
        refine flowW_call rfl rfl ?_ ?_
        · intro W hW hF K hK
          clear kc0 kc1
          go_wp2_with fail
          refine (ofV_v HF0.out (HV.out.later (below_then HB0.out (below_then HBL.out hW)))).mono ?_
          rintro e wq ⟨rfl, rfl⟩
          go_wp2_with fail
          exact hK _ _ rfl trivial (Below.refl _ _)
        rintro v rfl K hK
        go_simp
        refine hK _ ?_
        clear hK K
        refine flowW_plain rfl ?_
        go_big_quiet_step (fail)
        refine wpQuiet_nil ?_
        refine flowW_end fun wz hwz hF hD => ?_
        clear kc0 kc1
        simp only [List.drop_succ_cons, List.drop_zero]
        have HBM := Lib.hid (below_then HBL.out hwz)
        clear hwz hF hD c0 c1 x1
        by_cases hle : x.seq ≤ f
        · have hle2 : decide (x.seq ≤ f) = true := decide_eq_true hle
          go_wp2_with fail
          go_ret
          exact ⟨rfl, below_then HB0.out HBM.out⟩
        · have hle2 : decide (x.seq ≤ f) = false := decide_eq_false hle
          go_wp2_with fail
          go_roundw
          case rel => exact ⟨k + 1, by omega, by go_num, (fun j hj => by rcases Nat.lt_or_ge j k with h | h; exact hall.out j h; rw [show j = k by omega, HX.out, HF0.out]; omega), HBM.out⟩
          case measure => simp [intOf]; omega
    · have hkn : n = k := by omega
      subst hkn
      have hk2 : ¬ (n : Int) < (n : Int) := by omega
      have HAB : Hid (∀ x ∈ l, ofV line x.dev < x.seq) := fun x hx => by
        obtain ⟨j, hj, rfl⟩ := List.mem_iff_getElem.1 hx
        have := hall.out j (by have := HLn.out; omega)
        rwa [List.getD_eq_getElem?_getD, List.getElem?_eq_getElem hj] at this
      have HB := Lib.hid (below_then HB0.out HBL.out)
      clear hall HB0 HBL hlt hk
      obtain ⟨qi, hqqi, hq2qi⟩ : ∃ qi : Nat, ai % (n : Int) = (qi : Int) ∧ qi < n := ⟨(ai % (n : Int)).toNat, by have := Int.emod_nonneg ai (b := (n : Int)) (by omega); omega, by have := Int.emod_lt_of_pos ai (b := (n : Int)) (by omega); have := Int.emod_nonneg ai (b := (n : Int)) (by omega); omega⟩
      have hzqi : (0 : Int) ≤ (qi : Int) := by omega
      have hyqi : (qi : Int) < (n : Int) := by omega
      have hiqi : qi < l.length := by have := HLn.out; omega
      obtain ⟨t, ht⟩ : ∃ t, l[qi] = t := ⟨_, rfl⟩
      have HMt : Hid (l[qi]? = some t) := by show _ = _; rw [List.getElem?_eq_getElem hiqi, ht]
      have HIt : Hid (t ∈ l) := by show _ ∈ _; rw [← ht]; exact List.getElem_mem hiqi
      have HTt : Hid (l.take (qi + 1) = l.take qi ++ [t]) := by show _ = _; rw [List.take_succ_eq_append_getElem hiqi, ht]
      have hlr := (HL.out.later HB.out).1
      rw [HLn.out] at hlr
      obtain ⟨bbt, oot, et, c0, c1, c2, c3, c4, c5, c6, c7, c8, c9, c10, -⟩ := rd_txs hlr HLn.out.symm qi hiqi ht
      clear hlr ht hiqi
      have HRt := Lib.hid (HL.out.2 t HIt.out)
      go_wp2_with fail
      refine (past_any (deps := t.deps) _ (HL.out.later HB.out) (HRt.out.later HB.out).deps' (by have := HLn.out; omega)).mono ?_
      rintro e w2 ⟨vt, rfl, hA, hb⟩
      replace HB := Lib.hid (below_then HB.out hb)
      obtain ⟨A, hpeA⟩ : ∃ A, pastT l t.deps = A := ⟨_, rfl⟩
      rw [hpeA] at hA
      have hlenA : A.length ≤ n := by have := pastT_len l t.deps; rw [hpeA] at this; have := HLn.out; omega
      have HEA := Lib.hid hpeA
      clear hpeA c0 c1 c2 c3 c4 c5 c6 c7 c8 c9 c10 et hqqi hzqi hyqi
      have hbw2 := hb
      clear hb
      obtain ⟨qk, hqqk, hq2qk⟩ : ∃ qk : Nat, ak % (n : Int) = (qk : Int) ∧ qk < n := ⟨(ak % (n : Int)).toNat, by have := Int.emod_nonneg ak (b := (n : Int)) (by omega); omega, by have := Int.emod_lt_of_pos ak (b := (n : Int)) (by omega); have := Int.emod_nonneg ak (b := (n : Int)) (by omega); omega⟩
      have hzqk : (0 : Int) ≤ (qk : Int) := by omega
      have hyqk : (qk : Int) < (n : Int) := by omega
      have hiqk : qk < l.length := by have := HLn.out; omega
      obtain ⟨u, hu⟩ : ∃ u, l[qk] = u := ⟨_, rfl⟩
      have HMu : Hid (l[qk]? = some u) := by show _ = _; rw [List.getElem?_eq_getElem hiqk, hu]
      have HIu : Hid (u ∈ l) := by show _ ∈ _; rw [← hu]; exact List.getElem_mem hiqk
      have HTu : Hid (l.take (qk + 1) = l.take qk ++ [u]) := by show _ = _; rw [List.take_succ_eq_append_getElem hiqk, hu]
      have hlr := (HL.out.later HB.out).1
      rw [HLn.out] at hlr
      obtain ⟨bbu, oou, eu, d0, d1, d2, d3, d4, d5, d6, d7, d8, d9, d10, -⟩ := rd_txs hlr HLn.out.symm qk hiqk hu
      clear hlr hu hiqk
      have HRu := Lib.hid (HL.out.2 u HIu.out)
      go_wp2_with fail
      refine (past_any (deps := u.deps) _ (HL.out.later HB.out) (HRu.out.later HB.out).deps' (by have := HLn.out; omega)).mono ?_
      rintro e w3 ⟨vu, rfl, hB, hb⟩
      replace HB := Lib.hid (below_then HB.out hb)
      obtain ⟨B, hpeB⟩ : ∃ B, pastT l u.deps = B := ⟨_, rfl⟩
      rw [hpeB] at hB
      have hlenB : B.length ≤ n := by have := pastT_len l u.deps; rw [hpeB] at this; have := HLn.out; omega
      have HEB := Lib.hid hpeB
      clear hpeB d0 d1 d2 d3 d4 d5 d6 d7 d8 d9 d10 eu hqqk hzqk hyqk
      replace hA := hA.later hb
      clear hb hbw2
      obtain ⟨aa, ca, ev, hnna, hmna, -, -⟩ := id hA.1
      unfold maxLen at hmna
      obtain ⟨na, hlna⟩ : ∃ na, A.length = na := ⟨_, rfl⟩
      rw [hlna] at ev hnna
      subst ev
      have HLna := Lib.hid hlna
      clear hlna
      obtain ⟨ab, cb, ev, hnnb, hmnb, -, -⟩ := id hB.1
      unfold maxLen at hmnb
      obtain ⟨nb, hlnb⟩ : ∃ nb, B.length = nb := ⟨_, rfl⟩
      rw [hlnb] at ev hnnb
      subst ev
      have HLnb := Lib.hid hlnb
      clear hlnb
      have HA := Lib.hid hA
      have HBB := Lib.hid hB
      have HAB2 := HAB
      have hna20 : na ≤ 20 := by have := HLna.out; omega
      have hnb20 : nb ≤ 20 := by have := HLnb.out; omega
      have hrA := hA.1
      rw [HLna.out] at hrA
      have hown0 : (w3.alloc (.cells #[] 31)).ownsRow w3.heap.size 31 11 (.slice (some ⟨w3.heap.size, 0, none⟩) 0 0) 0 [] := ⟨rfl, .inr ⟨_, 0, #[], rfl, Nat.le_refl _, bx_new rfl, Nat.le_refl _, Nat.zero_le _, rfl, rfl⟩⟩
      clear hA hB hlenA hlenB
      go_wp2_with (at_builtin; refine wpList_app (n := 0) (m := na) (news := txsCs A) elTx ⟨_, elTx.ty, fun k h => by cases h⟩ rfl _ _ rfl rfl rfl hown0 (Src.of_rd (hrA.later (below_alloc _ _)) (by rw [txsCs_length, HLna.out])) (fun u hu => by obtain ⟨z, -, hz⟩ := List.mem_flatMap.1 hu; exact txsCs_one z u hz) (by unfold maxLen; omega) (by omega) (by simp) ?_; intro v4 w4 hown4 hgrow4 hblk4; have HB4 : Hid (Below w3.heap.size w3 w4) := below_own (below_alloc _ _) hown0 (Nat.le_refl _) hgrow4; have HO4 := Lib.hid hown4; clear hown0 hown4 hgrow4 hblk4)
      clear hrA
      go_loopw [15, 16] (fun vs vi wr => ∃ k : Nat, k ≤ nb ∧ vi = .int .i64 k ∧ Hid (wr.ownsRow w3.heap.size 31 11 vs (bothT A (B.take k)).length (txsCs (bothT A (B.take k)))) ∧ Hid (Below w3.heap.size w3 wr)) (fun _ vi _ => nb - (intOf vi).toNat)
      case atStart => exact ⟨0, Nat.zero_le _, by go_num, (by show World.ownsRow _ _ _ _ _ _ _; have := HO4.out; rw [Nat.zero_add, List.nil_append, ← HLna.out] at this; simpa [bothT] using this), HB4.out⟩
      case round =>
        obtain ⟨k, hk, rfl, HS, HBK⟩ := hrel
        rename World => wk
        clear HO4
        by_cases hlk : k < nb
        · have hk5 : (k : Int) < (nb : Int) := by omega
          have hk6 : (0 : Int) ≤ (k : Int) := by omega
          have hik : k < B.length := by have := HLnb.out; omega
          obtain ⟨y, hy⟩ : ∃ y, B[k] = y := ⟨_, rfl⟩
          have HMy : Hid (B[k]? = some y) := by show _ = _; rw [List.getElem?_eq_getElem hik, hy]
          have HIy : Hid (y ∈ B) := by show _ ∈ _; rw [← hy]; exact List.getElem_mem hik
          have HTy : Hid (B.take (k + 1) = B.take k ++ [y]) := by show _ = _; rw [List.take_succ_eq_append_getElem hik, hy]
          have hlr := (HBB.out.later HBK.out).1
          rw [HLnb.out] at hlr
          obtain ⟨bby, ooy, ey, d0, d1, d2, d3, d4, d5, d6, d7, d8, d9, d10, -⟩ := rd_txs hlr HLnb.out.symm k hik hy
          clear hlr hy hik
          clear ey d0 d1 d2 d3 d4 d5 d6 d7 d8 d9 d10
          go_wp2_with fail
          go_loopw [18, 17] (fun vi vt wr => ∃ j : Nat, j ≤ na ∧ vi = .int .i64 j ∧ vt = .bool ((A.take j).any (dotQ y)) ∧ Hid (Below wk.heap.size wk wr)) (fun vi _ _ => na - (intOf vi).toNat)
          case atStart => exact ⟨0, Nat.zero_le _, by go_num, by simp, Below.refl _ _⟩
          case round =>
            obtain ⟨j, hj, rfl, rfl, HBI⟩ := hrel
            rename World => wi
            by_cases hlj : j < na
            · have hk4 : (j : Int) < (na : Int) := by omega
              have hj0 : (0 : Int) ≤ (j : Int) := by omega
              have hk0 : (0 : Int) ≤ (k : Int) := by omega
              have hk3 : (k : Int) < (nb : Int) := by omega
              have hij : j < A.length := by have := HLna.out; omega
              obtain ⟨x, hx⟩ : ∃ x, A[j] = x := ⟨_, rfl⟩
              have HMx : Hid (A[j]? = some x) := by show _ = _; rw [List.getElem?_eq_getElem hij, hx]
              have HIx : Hid (x ∈ A) := by show _ ∈ _; rw [← hx]; exact List.getElem_mem hij
              have HTx : Hid (A.take (j + 1) = A.take j ++ [x]) := by show _ = _; rw [List.take_succ_eq_append_getElem hij, hx]
              have hlr := (HA.out.later (below_then HBK.out HBI.out)).1
              rw [HLna.out] at hlr
              obtain ⟨bbx, oox, ex, c0, c1, c2, c3, c4, c5, c6, c7, c8, c9, c10, -⟩ := rd_txs hlr HLna.out.symm j hij hx
              clear hlr hx hij
              obtain ⟨hqy, hgy⟩ := List.getElem?_eq_some_iff.1 HMy.out
              have hlr := (HBB.out.later (below_then HBK.out HBI.out)).1
              rw [HLnb.out] at hlr
              obtain ⟨bby, ooy, ey, d0, d1, d2, d3, d4, d5, d6, d7, d8, d9, d10, -⟩ := rd_txs hlr HLnb.out.symm k hqy hgy
              clear hlr hqy hgy
              have hnx : (A.take (j + 1)).any (dotQ y) = ((A.take j).any (dotQ y) || dotQ y x) := by rw [HTx.out, List.any_append]; simp
              have HNX := Lib.hid hnx
              clear hnx
              cases hth : (A.take j).any (dotQ y)
              · cases h1 : (x.dev == y.dev)
                · have HD2 : Hid (dotQ y x = false) := by show _ = _; unfold dotQ; rw [h1]; rfl
                  go_wp2_with fail
                  refine wp_region_flow (by kernel_rfl) 15 [(6, ⟨fun v => v = .agg #[.int .i64 x.dev, .int .i64 x.seq], fun _ _ _ _ => True⟩), (11, ⟨fun v => v = .agg #[.int .i64 y.dev, .int .i64 y.seq], fun _ _ _ _ => True⟩)] (by kernel_rfl) ?_ ?_ ?_
                  · intro x hx
                    simp only [List.mem_cons, List.not_mem_nil, or_false] at hx
                    rcases hx with rfl | rfl
                    · exact ⟨_, rfl⟩
                    · exact ⟨_, rfl⟩
                  · intro x hx v lo hi w w' h hb
                    simp only [List.mem_cons, List.not_mem_nil, or_false] at hx
                    rcases hx with rfl | rfl
                    · exact trivial
                    · exact trivial
                  · intro lo hi
                    have kc0 := cell_regrown c0
                    have kc1 := cell_regrown c1
                    have kc2 := cell_regrown c2
                    have kc3 := cell_regrown c3
                    have kc4 := cell_regrown c4
                    have kc5 := cell_regrown c5
                    have kc6 := cell_regrown c6
                    have kc7 := cell_regrown c7
                    have kc8 := cell_regrown c8
                    have kc9 := cell_regrown c9
                    have kc10 := cell_regrown c10
                    have kd0 := cell_regrown d0
                    have kd1 := cell_regrown d1
                    have kd2 := cell_regrown d2
                    have kd3 := cell_regrown d3
                    have kd4 := cell_regrown d4
                    have kd5 := cell_regrown d5
                    have kd6 := cell_regrown d6
                    have kd7 := cell_regrown d7
                    have kd8 := cell_regrown d8
                    have kd9 := cell_regrown d9
                    have kd10 := cell_regrown d10
                    refine flowW_plain rfl ?_
                    go_big_quiet_step (fail)
                    refine wpQuiet_nil ?_
                    refine flowW_plain rfl ?_
                    go_big_quiet_step (fail)
                    refine wpQuiet_nil ?_
                    refine flowW_plain rfl ?_
                    go_big_quiet_step (fail)
                    refine wpQuiet_nil ?_
                    refine flowW_plain rfl ?_
                    go_big_quiet_step (fail)
                    refine wpQuiet_nil ?_
                    refine flowW_plain rfl ?_
                    go_big_quiet_step (fail)
                    refine wpQuiet_nil ?_
                    refine flowW_plain rfl ?_
                    go_big_quiet_step (fail)
                    refine wpQuiet_nil ?_
                    refine flowW_call rfl rfl ?_ ?_
                    · intro W hW hF K hK
                      clear kc0 kc1 kc2 kc3 kc4 kc5 kc6 kc7 kc8 kc9 kc10 kd0 kd1 kd2 kd3 kd4 kd5 kd6 kd7 kd8 kd9 kd10
                      go_wp2_with fail
                      refine (dot_any _).mono ?_
                      rintro e wq ⟨rfl, hbq⟩
                      go_wp2_with fail
                      exact hK _ _ rfl trivial hbq
                    rintro v rfl K hK
                    go_simp
                    refine hK _ ?_
                    clear hK K
                    refine flowW_plain rfl ?_
                    go_big_quiet_step (fail)
                    refine wpQuiet_nil ?_
                    refine flowW_plain rfl ?_
                    go_big_quiet_step (fail)
                    refine wpQuiet_nil ?_
                    refine flowW_plain rfl ?_
                    go_big_quiet_step (fail)
                    refine wpQuiet_nil ?_
                    refine flowW_plain rfl ?_
                    go_big_quiet_step (fail)
                    refine wpQuiet_nil ?_
                    refine flowW_call rfl rfl ?_ ?_
                    · intro W hW hF K hK
                      clear kc0 kc1 kc2 kc3 kc4 kc5 kc6 kc7 kc8 kc9 kc10 kd0 kd1 kd2 kd3 kd4 kd5 kd6 kd7 kd8 kd9 kd10
                      go_wp2_with fail
                      refine (dot_any _).mono ?_
                      rintro e wq ⟨rfl, hbq⟩
                      go_wp2_with fail
                      exact hK _ _ rfl trivial hbq
                    rintro v rfl K hK
                    go_simp
                    refine hK _ ?_
                    clear hK K
                    refine flowW_plain rfl ?_
                    go_big_quiet_step (fail)
                    refine wpQuiet_nil ?_
                    refine flowW_plain rfl ?_
                    go_big_quiet_step (fail)
                    refine wpQuiet_nil ?_
                    refine flowW_plain rfl ?_
                    go_big_quiet_step (fail)
                    refine wpQuiet_nil ?_
                    refine flowW_end fun wz hwz hF hD => ?_
                    clear kc0 kc1 kc2 kc3 kc4 kc5 kc6 kc7 kc8 kc9 kc10 kd0 kd1 kd2 kd3 kd4 kd5 kd6 kd7 kd8 kd9 kd10
                    simp only [List.drop_succ_cons, List.drop_zero]
                    have HBQ := Lib.hid (below_then HBI.out hwz)
                    clear hwz hF hD ex ey c0 c1 c2 c3 c4 c5 c6 c7 c8 c9 c10 d0 d1 d2 d3 d4 d5 d6 d7 d8 d9 d10
                    go_wp2_with fail
                    go_roundw
                    case rel => exact ⟨j + 1, by omega, by go_num, (by rw [HNX.out, HD2.out, hth]; rfl), HBQ.out⟩
                    case measure => simp [intOf]; omega
                · cases h2 : (x.seq == y.seq)
                  · have HD2 : Hid (dotQ y x = false) := by show _ = _; unfold dotQ; rw [h2, Bool.and_false]
                    go_wp2_with fail
                    refine wp_region_flow (by kernel_rfl) 15 [(6, ⟨fun v => v = .agg #[.int .i64 x.dev, .int .i64 x.seq], fun _ _ _ _ => True⟩), (11, ⟨fun v => v = .agg #[.int .i64 y.dev, .int .i64 y.seq], fun _ _ _ _ => True⟩)] (by kernel_rfl) ?_ ?_ ?_
                    · intro x hx
                      simp only [List.mem_cons, List.not_mem_nil, or_false] at hx
                      rcases hx with rfl | rfl
                      · exact ⟨_, rfl⟩
                      · exact ⟨_, rfl⟩
                    · intro x hx v lo hi w w' h hb
                      simp only [List.mem_cons, List.not_mem_nil, or_false] at hx
                      rcases hx with rfl | rfl
                      · exact trivial
                      · exact trivial
                    · intro lo hi
                      have kc0 := cell_regrown c0
                      have kc1 := cell_regrown c1
                      have kc2 := cell_regrown c2
                      have kc3 := cell_regrown c3
                      have kc4 := cell_regrown c4
                      have kc5 := cell_regrown c5
                      have kc6 := cell_regrown c6
                      have kc7 := cell_regrown c7
                      have kc8 := cell_regrown c8
                      have kc9 := cell_regrown c9
                      have kc10 := cell_regrown c10
                      have kd0 := cell_regrown d0
                      have kd1 := cell_regrown d1
                      have kd2 := cell_regrown d2
                      have kd3 := cell_regrown d3
                      have kd4 := cell_regrown d4
                      have kd5 := cell_regrown d5
                      have kd6 := cell_regrown d6
                      have kd7 := cell_regrown d7
                      have kd8 := cell_regrown d8
                      have kd9 := cell_regrown d9
                      have kd10 := cell_regrown d10
                      refine flowW_plain rfl ?_
                      go_big_quiet_step (fail)
                      refine wpQuiet_nil ?_
                      refine flowW_plain rfl ?_
                      go_big_quiet_step (fail)
                      refine wpQuiet_nil ?_
                      refine flowW_plain rfl ?_
                      go_big_quiet_step (fail)
                      refine wpQuiet_nil ?_
                      refine flowW_plain rfl ?_
                      go_big_quiet_step (fail)
                      refine wpQuiet_nil ?_
                      refine flowW_plain rfl ?_
                      go_big_quiet_step (fail)
                      refine wpQuiet_nil ?_
                      refine flowW_plain rfl ?_
                      go_big_quiet_step (fail)
                      refine wpQuiet_nil ?_
                      refine flowW_call rfl rfl ?_ ?_
                      · intro W hW hF K hK
                        clear kc0 kc1 kc2 kc3 kc4 kc5 kc6 kc7 kc8 kc9 kc10 kd0 kd1 kd2 kd3 kd4 kd5 kd6 kd7 kd8 kd9 kd10
                        go_wp2_with fail
                        refine (dot_any _).mono ?_
                        rintro e wq ⟨rfl, hbq⟩
                        go_wp2_with fail
                        exact hK _ _ rfl trivial hbq
                      rintro v rfl K hK
                      go_simp
                      refine hK _ ?_
                      clear hK K
                      refine flowW_plain rfl ?_
                      go_big_quiet_step (fail)
                      refine wpQuiet_nil ?_
                      refine flowW_plain rfl ?_
                      go_big_quiet_step (fail)
                      refine wpQuiet_nil ?_
                      refine flowW_plain rfl ?_
                      go_big_quiet_step (fail)
                      refine wpQuiet_nil ?_
                      refine flowW_plain rfl ?_
                      go_big_quiet_step (fail)
                      refine wpQuiet_nil ?_
                      refine flowW_call rfl rfl ?_ ?_
                      · intro W hW hF K hK
                        clear kc0 kc1 kc2 kc3 kc4 kc5 kc6 kc7 kc8 kc9 kc10 kd0 kd1 kd2 kd3 kd4 kd5 kd6 kd7 kd8 kd9 kd10
                        go_wp2_with fail
                        refine (dot_any _).mono ?_
                        rintro e wq ⟨rfl, hbq⟩
                        go_wp2_with fail
                        exact hK _ _ rfl trivial hbq
                      rintro v rfl K hK
                      go_simp
                      refine hK _ ?_
                      clear hK K
                      refine flowW_plain rfl ?_
                      go_big_quiet_step (fail)
                      refine wpQuiet_nil ?_
                      refine flowW_plain rfl ?_
                      go_big_quiet_step (fail)
                      refine wpQuiet_nil ?_
                      refine flowW_plain rfl ?_
                      go_big_quiet_step (fail)
                      refine wpQuiet_nil ?_
                      refine flowW_end fun wz hwz hF hD => ?_
                      clear kc0 kc1 kc2 kc3 kc4 kc5 kc6 kc7 kc8 kc9 kc10 kd0 kd1 kd2 kd3 kd4 kd5 kd6 kd7 kd8 kd9 kd10
                      simp only [List.drop_succ_cons, List.drop_zero]
                      have HBQ := Lib.hid (below_then HBI.out hwz)
                      clear hwz hF hD ex ey c0 c1 c2 c3 c4 c5 c6 c7 c8 c9 c10 d0 d1 d2 d3 d4 d5 d6 d7 d8 d9 d10
                      go_wp2_with fail
                      go_roundw
                      case rel => exact ⟨j + 1, by omega, by go_num, (by rw [HNX.out, HD2.out, hth]; rfl), HBQ.out⟩
                      case measure => simp [intOf]; omega
                  · have HD2 : Hid (dotQ y x = true) := by show _ = _; unfold dotQ; rw [h1, h2]; rfl
                    go_wp2_with fail
                    refine wp_region_flow (by kernel_rfl) 15 [(6, ⟨fun v => v = .agg #[.int .i64 x.dev, .int .i64 x.seq], fun _ _ _ _ => True⟩), (11, ⟨fun v => v = .agg #[.int .i64 y.dev, .int .i64 y.seq], fun _ _ _ _ => True⟩)] (by kernel_rfl) ?_ ?_ ?_
                    · intro x hx
                      simp only [List.mem_cons, List.not_mem_nil, or_false] at hx
                      rcases hx with rfl | rfl
                      · exact ⟨_, rfl⟩
                      · exact ⟨_, rfl⟩
                    · intro x hx v lo hi w w' h hb
                      simp only [List.mem_cons, List.not_mem_nil, or_false] at hx
                      rcases hx with rfl | rfl
                      · exact trivial
                      · exact trivial
                    · intro lo hi
                      have kc0 := cell_regrown c0
                      have kc1 := cell_regrown c1
                      have kc2 := cell_regrown c2
                      have kc3 := cell_regrown c3
                      have kc4 := cell_regrown c4
                      have kc5 := cell_regrown c5
                      have kc6 := cell_regrown c6
                      have kc7 := cell_regrown c7
                      have kc8 := cell_regrown c8
                      have kc9 := cell_regrown c9
                      have kc10 := cell_regrown c10
                      have kd0 := cell_regrown d0
                      have kd1 := cell_regrown d1
                      have kd2 := cell_regrown d2
                      have kd3 := cell_regrown d3
                      have kd4 := cell_regrown d4
                      have kd5 := cell_regrown d5
                      have kd6 := cell_regrown d6
                      have kd7 := cell_regrown d7
                      have kd8 := cell_regrown d8
                      have kd9 := cell_regrown d9
                      have kd10 := cell_regrown d10
                      refine flowW_plain rfl ?_
                      go_big_quiet_step (fail)
                      refine wpQuiet_nil ?_
                      refine flowW_plain rfl ?_
                      go_big_quiet_step (fail)
                      refine wpQuiet_nil ?_
                      refine flowW_plain rfl ?_
                      go_big_quiet_step (fail)
                      refine wpQuiet_nil ?_
                      refine flowW_plain rfl ?_
                      go_big_quiet_step (fail)
                      refine wpQuiet_nil ?_
                      refine flowW_plain rfl ?_
                      go_big_quiet_step (fail)
                      refine wpQuiet_nil ?_
                      refine flowW_plain rfl ?_
                      go_big_quiet_step (fail)
                      refine wpQuiet_nil ?_
                      refine flowW_call rfl rfl ?_ ?_
                      · intro W hW hF K hK
                        clear kc0 kc1 kc2 kc3 kc4 kc5 kc6 kc7 kc8 kc9 kc10 kd0 kd1 kd2 kd3 kd4 kd5 kd6 kd7 kd8 kd9 kd10
                        go_wp2_with fail
                        refine (dot_any _).mono ?_
                        rintro e wq ⟨rfl, hbq⟩
                        go_wp2_with fail
                        exact hK _ _ rfl trivial hbq
                      rintro v rfl K hK
                      go_simp
                      refine hK _ ?_
                      clear hK K
                      refine flowW_plain rfl ?_
                      go_big_quiet_step (fail)
                      refine wpQuiet_nil ?_
                      refine flowW_plain rfl ?_
                      go_big_quiet_step (fail)
                      refine wpQuiet_nil ?_
                      refine flowW_plain rfl ?_
                      go_big_quiet_step (fail)
                      refine wpQuiet_nil ?_
                      refine flowW_plain rfl ?_
                      go_big_quiet_step (fail)
                      refine wpQuiet_nil ?_
                      refine flowW_call rfl rfl ?_ ?_
                      · intro W hW hF K hK
                        clear kc0 kc1 kc2 kc3 kc4 kc5 kc6 kc7 kc8 kc9 kc10 kd0 kd1 kd2 kd3 kd4 kd5 kd6 kd7 kd8 kd9 kd10
                        go_wp2_with fail
                        refine (dot_any _).mono ?_
                        rintro e wq ⟨rfl, hbq⟩
                        go_wp2_with fail
                        exact hK _ _ rfl trivial hbq
                      rintro v rfl K hK
                      go_simp
                      refine hK _ ?_
                      clear hK K
                      refine flowW_plain rfl ?_
                      go_big_quiet_step (fail)
                      refine wpQuiet_nil ?_
                      refine flowW_plain rfl ?_
                      go_big_quiet_step (fail)
                      refine wpQuiet_nil ?_
                      refine flowW_plain rfl ?_
                      go_big_quiet_step (fail)
                      refine wpQuiet_nil ?_
                      refine flowW_end fun wz hwz hF hD => ?_
                      clear kc0 kc1 kc2 kc3 kc4 kc5 kc6 kc7 kc8 kc9 kc10 kd0 kd1 kd2 kd3 kd4 kd5 kd6 kd7 kd8 kd9 kd10
                      simp only [List.drop_succ_cons, List.drop_zero]
                      have HBQ := Lib.hid (below_then HBI.out hwz)
                      clear hwz hF hD ex ey c0 c1 c2 c3 c4 c5 c6 c7 c8 c9 c10 d0 d1 d2 d3 d4 d5 d6 d7 d8 d9 d10
                      go_wp2_with fail
                      go_roundw
                      case rel => exact ⟨j + 1, by omega, by go_num, (by rw [HNX.out, HD2.out, hth]; rfl), HBQ.out⟩
                      case measure => simp [intOf]; omega
              · go_wp2_with fail
                refine wp_region_flow (by kernel_rfl) 15 [(6, ⟨fun v => v = .bool true, fun _ _ _ _ => True⟩), (11, ⟨fun v => v = .bool true, fun _ _ _ _ => True⟩)] (by kernel_rfl) ?_ ?_ ?_
                · intro x hx
                  simp only [List.mem_cons, List.not_mem_nil, or_false] at hx
                  rcases hx with rfl | rfl
                  · exact ⟨_, rfl⟩
                  · exact ⟨_, rfl⟩
                · intro x hx v lo hi w w' h hb
                  simp only [List.mem_cons, List.not_mem_nil, or_false] at hx
                  rcases hx with rfl | rfl
                  · exact trivial
                  · exact trivial
                · intro lo hi
                  have kc0 := cell_regrown c0
                  have kc1 := cell_regrown c1
                  have kc2 := cell_regrown c2
                  have kc3 := cell_regrown c3
                  have kc4 := cell_regrown c4
                  have kc5 := cell_regrown c5
                  have kc6 := cell_regrown c6
                  have kc7 := cell_regrown c7
                  have kc8 := cell_regrown c8
                  have kc9 := cell_regrown c9
                  have kc10 := cell_regrown c10
                  have kd0 := cell_regrown d0
                  have kd1 := cell_regrown d1
                  have kd2 := cell_regrown d2
                  have kd3 := cell_regrown d3
                  have kd4 := cell_regrown d4
                  have kd5 := cell_regrown d5
                  have kd6 := cell_regrown d6
                  have kd7 := cell_regrown d7
                  have kd8 := cell_regrown d8
                  have kd9 := cell_regrown d9
                  have kd10 := cell_regrown d10
                  refine flowW_plain rfl ?_
                  go_big_quiet_step (fail)
                  refine wpQuiet_nil ?_
                  refine flowW_plain rfl ?_
                  go_big_quiet_step (fail)
                  refine wpQuiet_nil ?_
                  refine flowW_skip rfl ?_
                  go_big_quiet_step (fail)
                  refine wpQuiet_nil ?_
                  refine flowW_skip rfl ?_
                  go_big_quiet_step (fail)
                  refine wpQuiet_nil ?_
                  refine flowW_skip rfl ?_
                  go_big_quiet_step (fail)
                  refine wpQuiet_nil ?_
                  refine flowW_skip rfl ?_
                  go_big_quiet_step (fail)
                  refine wpQuiet_nil ?_
                  refine flowW_skip rfl ?_
                  go_big_quiet_step (fail)
                  refine wpQuiet_nil ?_
                  refine flowW_skip rfl ?_
                  go_big_quiet_step (fail)
                  refine wpQuiet_nil ?_
                  refine flowW_skip rfl ?_
                  go_big_quiet_step (fail)
                  refine wpQuiet_nil ?_
                  refine flowW_skip rfl ?_
                  go_big_quiet_step (fail)
                  refine wpQuiet_nil ?_
                  refine flowW_skip rfl ?_
                  go_big_quiet_step (fail)
                  refine wpQuiet_nil ?_
                  refine flowW_skip rfl ?_
                  go_big_quiet_step (fail)
                  refine wpQuiet_nil ?_
                  refine flowW_skip rfl ?_
                  go_big_quiet_step (fail)
                  refine wpQuiet_nil ?_
                  refine flowW_plain rfl ?_
                  go_big_quiet_step (fail)
                  refine wpQuiet_nil ?_
                  refine flowW_plain rfl ?_
                  go_big_quiet_step (fail)
                  refine wpQuiet_nil ?_
                  refine flowW_end fun wz hwz hF hD => ?_
                  clear kc0 kc1 kc2 kc3 kc4 kc5 kc6 kc7 kc8 kc9 kc10 kd0 kd1 kd2 kd3 kd4 kd5 kd6 kd7 kd8 kd9 kd10
                  simp only [List.drop_succ_cons, List.drop_zero]
                  have HBQ := Lib.hid (below_then HBI.out hwz)
                  clear hwz hF hD ex ey c0 c1 c2 c3 c4 c5 c6 c7 c8 c9 c10 d0 d1 d2 d3 d4 d5 d6 d7 d8 d9 d10
                  go_wp2_with fail
                  go_roundw
                  case rel => exact ⟨j + 1, by omega, by go_num, (by rw [HNX.out, hth]; rfl), HBQ.out⟩
                  case measure => simp [intOf]; omega
            · have hjn : na = j := by omega
              subst hjn
              have hk4 : ¬ (na : Int) < (na : Int) := by omega
              rw [List.take_of_length_le (by have := HLna.out; omega)]
              have hk0 : (0 : Int) ≤ (k : Int) := by omega
              have hk3 : (k : Int) < (nb : Int) := by omega
              have HBJ := Lib.hid (below_then HBK.out HBI.out)
              have hownJ := own_later HS.out HBI.out
              cases hth : A.any (dotQ y)
              · have hs1 : bothT A (B.take (k + 1)) = bothT A (B.take k) ++ [y] := by rw [HTy.out]; exact bothT_new hth
                have HS1 := Lib.hid hs1
                have hsl := bothT_len A (B.take k)
                have hbk : (B.take k).length ≤ k := by rw [List.length_take]; omega
                clear hs1
                obtain ⟨hqy, hgy⟩ := List.getElem?_eq_some_iff.1 HMy.out
                have hlr := (HBB.out.later HBJ.out).1
                rw [HLnb.out] at hlr
                obtain ⟨bby, ooy, ey, d0, d1, d2, d3, d4, d5, d6, d7, d8, d9, d10, -⟩ := rd_txs hlr HLnb.out.symm k hqy hgy
                clear hlr hqy hgy
                have hbs : w3.heap.size ≤ wi.heap.size := HBJ.out.size
                obtain ⟨ns, hns⟩ : ∃ ns, (bothT A (B.take k)).length = ns := ⟨_, rfl⟩
                rw [hns] at hownJ hsl
                have HNS := Lib.hid hns
                clear hns
                go_wp2_with (at_builtin; refine wpList_push (cs := #[.int .i64 y.dev, .int .i64 y.seq, .int .i64 y.time, .slice y.ad y.nd y.cd, .slice y.ao y.no y.co, .slice y.ae y.ne y.ce, .bool y.fm, .slice y.ah y.nh y.ch, .int .i64 y.note, .int .i64 y.whom, .int .i64 y.upto]) elTx rfl _ _ rfl rfl rfl hownJ rfl rfl (by have := HLna.out; unfold maxLen; omega) (by have := HLna.out; omega) hbs ?_; intro v5 w5 hown5 hgrow5 hblk5; have HB5 := Lib.hid (below_own HBJ.out hownJ (Nat.le_refl _) hgrow5); have HG5 := Lib.hid hgrow5; clear hgrow5 hblk5 ey d0 d1 d2 d3 d4 d5 d6 d7 d8 d9 d10)
                go_roundw
                case rel => exact ⟨k + 1, by omega, by go_num, (by show World.ownsRow _ _ _ _ _ _ _; rw [HS1.out, List.length_append, HNS.out, txsCs_snoc]; exact hown5), HB5.out⟩
                case measure => simp [intOf]; omega
              · have hs1 : bothT A (B.take (k + 1)) = bothT A (B.take k) := by rw [HTy.out]; exact bothT_old hth
                have HS1 := Lib.hid hs1
                clear hs1
                go_wp2_with fail
                go_roundw
                case rel => exact ⟨k + 1, by omega, by go_num, (by show World.ownsRow _ _ _ _ _ _ _; rw [HS1.out]; exact hownJ), HBJ.out⟩
                case measure => simp [intOf]; omega
        · have hkn : nb = k := by omega
          subst hkn
          have hk5 : ¬ (nb : Int) < (nb : Int) := by omega
          have hbn : B.take nb = B := List.take_of_length_le (by have := HLnb.out; omega)
          have hown := HS.out
          rw [hbn] at hown
          obtain ⟨S, hS⟩ : ∃ S, bothT A B = S := ⟨_, rfl⟩
          have hmem : ∀ x, x ∈ S ↔ x ∈ A ∨ x ∈ B := fun x => by rw [← hS, ← HEA.out, ← HEB.out]; exact bothT_mem HCL.out.nd
          have hcl : closedT line last S = true := closed_iff.2 (HCL.out.both HAB2.out HIt.out HIu.out (s := S) (fun x => by rw [HEA.out, HEB.out]; exact hmem x) (by rw [← hS, ← HEA.out, ← HEB.out]; exact bothT_nd HCL.out.nd))
          have hkj : sameB (knownT line S) (joinV (knownT line A) (knownT line B)) = true := sameB_iff.2 (known_join hmem)
          have hsl := bothT_len A B
          rw [hS] at hown hsl
          have hsr := Rd.of_own hown
          have hlS : LRd wk _ S := ⟨hsr, fun x hx => by rcases (hmem x).1 hx with h | h; exact (HA.out.2 x h).later HBK.out; exact (HBB.out.2 x h).later HBK.out⟩
          have HSL : Hid (S.length ≤ 40) := by show _ ≤ _; have := HLna.out; have := HLnb.out; omega
          have HLS := Lib.hid hlS
          have HCS := Lib.hid hcl
          have HKJ := Lib.hid hkj
          have HBZ := Lib.hid (below_then HB.out HBK.out)
          have hklA : (knownT line A).length ≤ 100000 := knownT_len _ _
          have hklB : (knownT line B).length ≤ 100000 := knownT_len _ _
          have HKA := Lib.hid hklA
          have HKB := Lib.hid hklB
          clear hbn hown hS hmem hcl hkj hsl hsr hlS hklA hklB HS
          go_wp2_with fail
          refine (closed_b true HCS.out (HV.out.later HBZ.out) HLS.out HW.out (by have := HSL.out; omega)).mono ?_
          rintro e w6 ⟨rfl, hb6⟩
          have HB6 := Lib.hid hb6
          clear hb6
          go_wp2_with fail
          refine (known_any _ (HV.out.later (below_then HBZ.out HB6.out)) (HLS.out.later HB6.out) (by have := HSL.out; omega)).mono ?_
          rintro e w7 ⟨v7, rfl, ho7, hb7⟩
          have HR7 := Lib.hid (Rd.of_own ho7)
          have HB7 := Lib.hid (below_then HB6.out hb7)
          clear ho7 hb7
          go_wp2_with fail
          refine (known_any _ (HV.out.later (below_then HBZ.out HB7.out)) (HA.out.later (below_then HBK.out HB7.out)) (by have := HLna.out; omega)).mono ?_
          rintro e w8 ⟨v8, rfl, ho8, hb8⟩
          have HR8 := Lib.hid (Rd.of_own ho8)
          replace HR7 := Lib.hid (HR7.out.later hb8)
          have HB8 := Lib.hid (below_then HB7.out hb8)
          clear ho8 hb8
          go_wp2_with fail
          refine (known_any _ (HV.out.later (below_then HBZ.out HB8.out)) (HBB.out.later (below_then HBK.out HB8.out)) (by have := HLnb.out; omega)).mono ?_
          rintro e w9 ⟨v9, rfl, ho9, hb9⟩
          have HR9 := Lib.hid (Rd.of_own ho9)
          replace HR7 := Lib.hid (HR7.out.later hb9)
          replace HR8 := Lib.hid (HR8.out.later hb9)
          have HB9 := Lib.hid (below_then HB8.out hb9)
          clear ho9 hb9
          go_wp2_with fail
          refine (vJoin_any _ _ _ _ _ HR8.out HR9.out HKA.out HKB.out).mono ?_
          rintro e w10 ⟨v10, rfl, ho10, hb10⟩
          have HR10 := Lib.hid (Rd.of_own ho10)
          replace HR7 := Lib.hid (HR7.out.later hb10)
          have HB10 := Lib.hid (below_then HB9.out hb10)
          clear ho10 hb10
          go_wp2_with fail
          refine (vSame_b true HKJ.out HR7.out HR10.out).mono ?_
          rintro e w11 ⟨rfl, rfl⟩
          go_wp2_with fail
          go_ret
          exact ⟨rfl, below_then HBZ.out HB10.out⟩

set_option maxRecDepth 100000 in
theorem lifted (os : Os) (started : os.Started) (H : Type) (enc : TypeId × Value → H) :
    ReturnsInHanded {} Try.checked os 6 .any (Rows.pastBothSpec.pre6 enc Try.prog Try.f6 Rows.pastBothRow.domain false) (Rows.pastBothSpec.post enc Try.prog Try.f6 false true false false) := by
  refine returnsInHanded_of_change_sized (C := Try.checked) ownKnob_none started (by kernel_rfl) Try.func6
    (ChangeSpec.witness6 (enc := enc) (C := Try.checked) false ⟨#[], #[.slice none 0 0, .int .i64 0, .slice none 0 0, .int .u8 0, .int .u8 0], []⟩ 8 (by kernel_rfl) (by kernel_rfl) (by kernel_rfl) (by kernel_rfl)) ?_
  intro W base args ds gs before hval0 hW hcnd hsz0 _
  have hval : ∀ (j : Nat) t v, Try.f6.params[j]? = some t → args[j]? = some v → Value.okWide Try.prog W .any base t v := hval0
  have hW' := hW
  obtain ⟨p, q, hA0, hV, rfl, hfz, hnd⟩ := hW
  have hA : DataW.TrodAll enc Try.prog W 0 (fun _ => true) true Try.f6.params.toList args.toList ds p := hA0
  have hsz : (DataW.weightsEach Try.prog (Try.f6.params.toList ++ Rows.pastBothSpec.plain.varTypes Try.prog) (ds ++ gs)).all (· ≤ reachBytes) = true := hsz0
  rw [Try.params6] at hA hval hsz
  obtain ⟨v0, vs0, d0, ds0, p0, q0, hargs, rfl, rfl, h0, r0r⟩ := trodAll_cons hA
  obtain ⟨v1, vs1, d1, ds1, p1, q1, rfl, rfl, rfl, h1, r1r⟩ := trodAll_cons r0r
  obtain ⟨v2, vs2, d2, ds2, p2, q2, rfl, rfl, rfl, h2, r2r⟩ := trodAll_cons r1r
  obtain ⟨v3, vs3, d3, ds3, p3, q3, rfl, rfl, rfl, h3, r3r⟩ := trodAll_cons r2r
  obtain ⟨v4, vs4, d4, ds4, p4, q4, rfl, rfl, rfl, h4, r4r⟩ := trodAll_cons r3r
  obtain ⟨rfl, rfl, rfl⟩ := trodAll_nil r4r
  obtain rfl : args = #[v0, v1, v2, v3, v4] := by cases args; simp_all
  obtain ⟨rfl, rfl⟩ := trodVars_none hV
  have g0 := sized_at hsz (j := 0) rfl rfl
  have g1 := sized_at hsz (j := 1) rfl rfl
  have g2 := sized_at hsz (j := 2) rfl rfl
  have g3 := sized_at hsz (j := 3) rfl rfl
  have g4 := sized_at hsz (j := 4) rfl rfl
  obtain ⟨y0_0, f0_0, f0_1⟩ := open_line (hval 0 23 v0 rfl rfl) h0
  obtain ⟨a1, rfl, rfl, rfl, w1⟩ := open_int Try.underlying3 (hval 1 3 v1 rfl rfl) h1
  obtain ⟨y2_0, f2_0, f2_1⟩ := open_txs (hval 2 24 v2 rfl rfl) h2
  obtain ⟨a3, rfl, rfl, rfl, w3⟩ := open_int Try.underlying5 (hval 3 5 v3 rfl rfl) h3
  obtain ⟨a4, rfl, rfl, rfl, w4⟩ := open_int Try.underlying5 (hval 4 5 v4 rfl rfl) h4
  refine (walk v0 y0_0 a1 v2 y2_0 a3 a4 W f0_0 f0_1 (wf_i64 w1) f2_0 f2_1 (wf_u8T w3) (wf_u8T w4)).mono fun e W' ⟨he, hg⟩ => ⟨_, he, law_post laidOut (by kernel_rfl) rfl Try.underlying4 rfl rfl hW' hg⟩

theorem over : Rows.pastBothRow.holds Try.pinned (OpenSpec.ofChange Rows.pastBothSpec) :=
  OpenClaim.holds_of_wide 6 Try.f6 rfl rfl rfl rfl rfl rfl rfl ⟨rfl, rfl, rfl, rfl, rfl⟩ rfl rfl rfl rfl rfl (by kernel_rfl) Try.func6 (by kernel_rfl)
    (of_decide_eq_true (by kernel_rfl)) (by unfold Func.isWrapper; first | (rw [if_pos (by decide +kernel)]; kernel_rfl) | (rw [if_neg (by decide +kernel)]; exact ⟨rfl, rfl⟩))
    (fun os started H enc _ => lifted os started H enc)

/-- THE STATEMENT. -/
theorem proved : Rows.PastBothSaid :=
  over
#print axioms proved
end Go.Proofs.Ytnolbabpkhdpmaa.pastBoth
