/-
  Layer 17 (tx): the reader: all. (printed by tools/gen_ut.py)
-/
import Derived.Test.YtliokkoalkhpaaaUS
namespace Go.Proofs.Ytliokkoalkhpaaa
open Go.RowKit Go.Sort Go.BigFrame

theorem own_ne_own {w : World} {B B' n n' s s' : Nat} {e T : TypeId} {v v' : Value} {xs xs' : List Value} (h : w.ownsRow B e s v n xs) (h' : w.ownsRow B' T s' v' n' xs') (hT : (e == T) = false) : ∀ k, v.ownBlock = some k → v'.ownBlock ≠ some k := by
  intro k hk hk'
  obtain ⟨_, h2⟩ := h
  obtain ⟨_, h3⟩ := h'
  rcases h2 with ⟨rfl, _⟩ | ⟨g, cap, cur, rfl, _, hg, _⟩
  · cases hk
  · rcases h3 with ⟨rfl, _⟩ | ⟨g', cap', cur', rfl, _, hg', _⟩
    · cases hk'
    · have e1 : g = k := by simpa [Value.ownBlock] using hk
      have e2 : g' = k := by simpa [Value.ownBlock] using hk'
      rw [e1] at hg
      rw [e2, hg] at hg'
      injection hg' with hg'
      injection hg' with _ h3 _
      rw [h3] at hT
      simp at hT
theorem own_grown {w w' : World} {B n s : Nat} {e : TypeId} {v : Value} {xs : List Value} {r : Option Nat} (h : w.ownsRow B e s v n xs) (hg : w.grownBy w' r) (hr : ∀ k, v.ownBlock = some k → r ≠ some k) : w'.ownsRow B e s v n xs :=
  own_but h (But.of_grown (S := fun k => r = some k) hg (fun _ h => h)) hr
theorem rdr_grown {w0 w w' : World} {g : Nat} {b : List UInt8} {r : Option Nat} (h : Rdr w0 w g b) (hg : w.grownBy w' r) (hr : r ≠ some g) : Rdr w0 w' g b := by
  obtain ⟨a, n, c, h1, h2, h3⟩ := h
  exact ⟨a, n, c, bx_grown hg h1 hr, h2, h3⟩
theorem but_grown {w w1 w2 : World} {g : Nat} {B n s : Nat} {e : TypeId} {v : Value} {xs : List Value} (h : But (fun k => k = g) w w1) (ho : w1.ownsRow B e s v n xs) (hB : w.heap.size ≤ B) (hg : w1.grownBy w2 v.ownBlock) : But (fun k => k = g) w w2 :=
  h.trans (But.of_grown (S := fun k => v.ownBlock = some k) hg (fun _ h => h)) (fun i hi e => by have := (ho.lt i e).1; omega)
theorem own_g {w : World} {g B n s : Nat} {e : TypeId} {v : Value} {xs : List Value} (ho : w.ownsRow B e s v n xs) (hg : g < B) : v.ownBlock ≠ some g := fun e => by have := (ho.lt g e).1; omega
theorem rounds_only {α : Type} {d : List UInt8 → Option (α × Nat)} {b : List UInt8} (p : List α → Bool) (h : getL d b = none) : onlyD p (getL d) b = none := by unfold onlyD; rw [h]
theorem many_no {α : Type} {d : List UInt8 → Option (α × Nat)} (ht : Takes d) {b : List UInt8} (h : manyD b = none) : onlyD (fun l : List α => decide (l.length ≤ 2000)) (getL d) b = none := by
  unfold manyD onlyD at h
  unfold onlyD
  cases hg : get b with
  | none => rw [getL_no hg]
  | some q =>
    obtain ⟨x, k⟩ := q
    rw [hg] at h
    simp only at h
    split at h
    · cases h
    · rename_i hi
      cases hl : getL d b with
      | none => rfl
      | some r =>
        obtain ⟨l, t⟩ := r
        simp only
        rw [if_neg]
        intro hd
        have hd := of_decide_eq_true hd
        unfold getL at hl
        rw [hg] at hl
        simp only at hl
        split at hl
        · cases hl
        · rename_i hx
          cases hk : getKd d x.toNat (b.drop k) with
          | none => rw [hk] at hl; cases hl
          | some s =>
            rw [hk] at hl
            cases hl
            have := (getKd_le ht _ _ _ _ hk).1
            apply hi
            unfold inQ3
            rw [decide_eq_true (by omega), decide_eq_true (by omega)]
            rfl
theorem many_yes {b : List UInt8} {x : Int} {k : Nat} (h : manyD b = some (x, k)) : get b = some (x, k) := by
  unfold manyD onlyD at h
  cases hg : get b with
  | none => rw [hg] at h; cases h
  | some q =>
    rw [hg] at h
    simp only at h
    split at h
    · exact h
    · cases h
theorem opD_takes : Takes opD := by
  intro b x i h
  have h1 := opD_puts.2 _ _ _ h
  have h2 : 1 ≤ (bytesOp x).length := by
    unfold bytesOp nums
    simp only [List.length_append]
    have := put_len (x.nums.length : Int)
    omega
  have h3 := congrArg List.length h1.2.1
  rw [List.length_append] at h3
  omega
theorem handD_takes : Takes handD := by
  intro b x i h
  have h1 := handD_puts.2 _ _ _ h
  have h2 : 1 ≤ (bytesHand x).length := by
    unfold bytesHand nums
    simp only [List.length_append]
    have := put_len (x.nums.length : Int)
    omega
  have h3 := congrArg List.length h1.2.1
  rw [List.length_append] at h3
  omega
/-- Operations that were read: the rows are the call's own. -/
def OwnOps (w : World) (B : Nat) (v : Value) (ms : List OpM) : Prop :=
  w.ownsRow B 89 11 v ms.length (ms.flatMap OpM.cs) ∧ ∀ m ∈ ms, w.ownsRow B 87 3 m.rv m.op.row.length (rowCs m.op.row)

set_option maxRecDepth 100000 in
set_option maxHeartbeats 8000000 in
theorem allOps_any {w0 w : World} {g : Nat} {b : List UInt8} (hr : Rdr w0 w g b) (hb : Below w0.heap.size w0 w) (hg0 : w0.heap.size ≤ g) (hl : b.length ≤ 1000000000) :
    Calls Try.prog 44 #[.pointer (some ⟨g, 0, none⟩), .func (.func 42) #[.pointer (some ⟨g, 0, none⟩)] #[]] w (ReadP w0 w g b opsD fun w' v x => ∃ (ms : List OpM) (a : Option Addr) (c : Nat), ms.map OpM.op = x ∧ v = .slice a ms.length c ∧ OwnOps w' w.heap.size (.slice a ms.length c) ms) := by
  have hgw : g < w.heap.size := by obtain ⟨_, _, _, hq, _, _⟩ := id hr; exact (Array.getElem?_eq_some_iff.1 hq).1
  have C := Lib.hid (many_any hr hb)
  have HB := Lib.hid hb
  have HGW := Lib.hid hgw
  have HG0 := Lib.hid hg0
  clear hr hb hg0 hgw
  go_enter Try.func44, Try.ntmps44
  go_wp2_with fail
  refine C.out.mono ?_
  rintro e w1 ⟨hb1, hc | hc⟩
  · obtain ⟨hd, rfl⟩ := hc
    have HS : Hid (opsD b = none) := many_no opD_takes hd
    have HB1 := Lib.hid hb1
    clear hd hb1
    go_wp2_with fail
    exact ⟨rfl, HB1.out, .inl ⟨HS.out, rfl⟩⟩
  · obtain ⟨v, x, k0, hd, rfl, hkl, hr1, rfl, hi⟩ := hc
    unfold inQ3 at hi
    rw [Bool.and_eq_true, decide_eq_true_eq, decide_eq_true_eq] at hi
    obtain ⟨m, rfl⟩ := Int.eq_ofNat_of_zero_le hi.1
    have hm : m ≤ 2000 := by omega
    have HS0 := Lib.hid (roundsD_start (d := opD) (many_yes hd))
    have HR1 := Lib.hid hr1
    have HB1 := Lib.hid hb1
    clear hd hr1 hb1 hi C
    go_wp2_with fail
    go_loopw [5, 8] (fun vo vi wr => ∃ (j k : Nat) (ms : List OpM) (a : Option Addr) (c : Nat), j ≤ m ∧ vi = .int .i64 j ∧ vo = .slice a ms.length c ∧ k ≤ b.length ∧ Hid (ms.length = j) ∧ Hid (RoundsD opD b (m - j) k (ms.map OpM.op)) ∧ Hid (OwnOps wr w.heap.size (.slice a ms.length c) ms) ∧ Hid (Rdr w0 wr g (b.drop k)) ∧ Hid (But (fun k => k = g) w wr)) (fun _ vi _ => m - (intOf vi).toNat)
    case atStart => exact ⟨0, k0, [], none, 0, Nat.zero_le _, rfl, rfl, hkl, rfl, HS0.out, ⟨World.ownsRow_nil _ _ _ _, fun m hm => nomatch hm⟩, HR1.out, HB1.out⟩
    case round =>
      obtain ⟨j, k, ms, a, c, hj, rfl, rfl, hk, HML, HRO, HOW, HRD, HBT⟩ := hrel
      rename World => wr
      by_cases hlt : j < m
      · have hbw : Below w0.heap.size w0 wr := HB.out.trans (HBT.out.below (B := w0.heap.size) HB.out.size (fun k e => by subst e; exact HG0.out))
        obtain ⟨left, hleft⟩ : ∃ left, m - j = left + 1 := ⟨m - j - 1, by omega⟩
        have HR2 : Hid (RoundsD opD b (left + 1) k (ms.map OpM.op)) := by have := HRO.out; rwa [hleft] at this
        have HL : Hid (m - (j + 1) = left) := by show _ = _; omega
        have hml : ms.length ≤ 2000 := by have := HML.out; omega
        have CO := Lib.hid (op_any HRD.out hbw HG0.out (by rw [List.length_drop]; omega))
        clear hleft hbw
        go_wp2_with fail
        refine CO.out.mono ?_
        rintro e w2 ⟨hb2, hc | hc⟩
        · obtain ⟨hd, rfl⟩ := hc
          have HS : Hid (opsD b = none) := rounds_only _ (roundsD_fail HR2.out hd)
          have HB2 := Lib.hid hb2
          clear hd hb2 CO
          go_wp2_with fail
          exact ⟨rfl, HBT.out.trans HB2.out (fun i _ e => e), .inl ⟨HS.out, rfl⟩⟩
        · obtain ⟨v, x, k1, hd, rfl, hkl1, hr2, ra, rc, hv, hrow⟩ := hc
          obtain rfl : v = .agg #[.int .i64 x.kind, .int .i64 x.table, .int .i64 x.key, .int .i64 x.col, .slice ra x.row.length rc, .int .i64 x.val.k, .int .i64 x.val.n, .string x.val.s, .int .i64 x.after.1, .int .i64 x.after.2, .int .i64 x.at_] := hv
          have HN := Lib.hid (roundsD_next HR2.out hd)
          rw [List.length_drop] at hkl1
          rw [List.drop_drop] at hr2
          have hown2 := own_but HOW.out.1 hb2 (fun q hq e => own_g HOW.out.1 HGW.out (by rw [hq, e]))
          have hbt2 := HBT.out.trans hb2 (fun i _ e => e)
          have HBT2 := Lib.hid hbt2
          have HR2' := Lib.hid hr2
          have HROW := Lib.hid (own_mono0 hrow HBT.out.size)
          have HROWS : Hid (∀ m ∈ ms, w2.ownsRow w.heap.size 87 3 m.rv m.op.row.length (rowCs m.op.row)) := fun m hm => own_but (HOW.out.2 m hm) hb2 (fun q hq e => own_g (HOW.out.2 m hm) HGW.out (by rw [hq, e]))
          clear hd hb2 hr2 hbt2 CO hrow
          go_wp2_with (at_builtin; refine wpList_pushH (H := w2.heap.size) elOp rfl _ _ rfl rfl rfl rfl hown2 rfl rfl (by unfold maxLen; omega) (by omega) HBT2.out.size ?_; intro v4 w4 hown4 hgrow4 hblk4)
          have hgr : w2.grownBy w4 (Value.slice a ms.length c).ownBlock := hgrow4
          have hrd4 := rdr_grown HR2'.out hgr (own_g hown2 HGW.out)
          have hbt4 := but_grown HBT2.out hown2 (Nat.le_refl _) hgr
          obtain ⟨a4, c4, rfl, -⟩ := Rd.of_own hown4
          go_roundw
          case rel =>
            refine ⟨j + 1, k + k1, ms ++ [⟨x, .slice ra x.row.length rc⟩], a4, c4, by omega, by go_num, by rw [List.length_append]; rfl, by omega, (by show _ = _; rw [List.length_append, HML.out]; rfl), ?_, ?_, hrd4, hbt4⟩
            · show RoundsD opD b _ _ _
              rw [HL.out, List.map_append]
              exact HN.out
            · refine ⟨?_, fun y hy => ?_⟩
              · rw [List.length_append, List.flatMap_append]
                simpa [OpM.cs] using hown4
              · rcases List.mem_append.1 hy with hy | hy
                · exact own_grown (HROWS.out y hy) hgr (own_ne_own (HROWS.out y hy) hown2 rfl)
                · rw [List.mem_singleton.1 hy]
                  have hr' := own_but HROW.out (But.refl (fun _ => False) w2) (fun _ _ h => h)
                  exact own_grown hr' hgr (own_ne_own hr' hown2 rfl)
          case measure => simp [intOf]; omega
      · have hjm : j = m := by omega
        have HS : Hid (opsD b = some (ms.map OpM.op, k)) := by
          show _ = _
          have h1 := HRO.out
          rw [hjm, Nat.sub_self] at h1
          unfold opsD onlyD
          rw [roundsD_end h1]
          simp only
          rw [if_pos]
          rw [decide_eq_true_eq, List.length_map]
          have := HML.out
          omega
        clear hjm
        go_wp2_with fail
        go_ret
        exact ⟨HBT.out, .inr ⟨_, _, k, HS.out, rfl, hk, HRD.out, ms, a, c, rfl, rfl, HOW.out⟩⟩

set_option maxRecDepth 100000 in
set_option maxHeartbeats 8000000 in
theorem allHands_any {w0 w : World} {g : Nat} {b : List UInt8} (hr : Rdr w0 w g b) (hb : Below w0.heap.size w0 w) (hg0 : w0.heap.size ≤ g) (hl : b.length ≤ 1000000000) :
    Calls Try.prog 45 #[.pointer (some ⟨g, 0, none⟩), .func (.func 43) #[.pointer (some ⟨g, 0, none⟩)] #[]] w (ReadP w0 w g b handsD fun w' v x => ∃ (ms : List HandT) (a : Option Addr) (c : Nat), ms = x ∧ v = .slice a ms.length c ∧ w'.ownsRow w.heap.size 67 7 (.slice a ms.length c) ms.length (ms.flatMap HandT.cs)) := by
  have hgw : g < w.heap.size := by obtain ⟨_, _, _, hq, _, _⟩ := id hr; exact (Array.getElem?_eq_some_iff.1 hq).1
  have C := Lib.hid (many_any hr hb)
  have HB := Lib.hid hb
  have HGW := Lib.hid hgw
  have HG0 := Lib.hid hg0
  clear hr hb hg0 hgw
  go_enter Try.func45, Try.ntmps45
  go_wp2_with fail
  refine C.out.mono ?_
  rintro e w1 ⟨hb1, hc | hc⟩
  · obtain ⟨hd, rfl⟩ := hc
    have HS : Hid (handsD b = none) := many_no handD_takes hd
    have HB1 := Lib.hid hb1
    clear hd hb1
    go_wp2_with fail
    exact ⟨rfl, HB1.out, .inl ⟨HS.out, rfl⟩⟩
  · obtain ⟨v, x, k0, hd, rfl, hkl, hr1, rfl, hi⟩ := hc
    unfold inQ3 at hi
    rw [Bool.and_eq_true, decide_eq_true_eq, decide_eq_true_eq] at hi
    obtain ⟨m, rfl⟩ := Int.eq_ofNat_of_zero_le hi.1
    have hm : m ≤ 2000 := by omega
    have HS0 := Lib.hid (roundsD_start (d := handD) (many_yes hd))
    have HR1 := Lib.hid hr1
    have HB1 := Lib.hid hb1
    clear hd hr1 hb1 hi C
    go_wp2_with fail
    go_loopw [5, 8] (fun vo vi wr => ∃ (j k : Nat) (ms : List HandT) (a : Option Addr) (c : Nat), j ≤ m ∧ vi = .int .i64 j ∧ vo = .slice a ms.length c ∧ k ≤ b.length ∧ Hid (ms.length = j) ∧ Hid (RoundsD handD b (m - j) k (ms)) ∧ Hid (wr.ownsRow w.heap.size 67 7 (.slice a ms.length c) ms.length (ms.flatMap HandT.cs)) ∧ Hid (Rdr w0 wr g (b.drop k)) ∧ Hid (But (fun k => k = g) w wr)) (fun _ vi _ => m - (intOf vi).toNat)
    case atStart => exact ⟨0, k0, [], none, 0, Nat.zero_le _, rfl, rfl, hkl, rfl, HS0.out, World.ownsRow_nil _ _ _ _, HR1.out, HB1.out⟩
    case round =>
      obtain ⟨j, k, ms, a, c, hj, rfl, rfl, hk, HML, HRO, HOW, HRD, HBT⟩ := hrel
      rename World => wr
      by_cases hlt : j < m
      · have hbw : Below w0.heap.size w0 wr := HB.out.trans (HBT.out.below (B := w0.heap.size) HB.out.size (fun k e => by subst e; exact HG0.out))
        obtain ⟨left, hleft⟩ : ∃ left, m - j = left + 1 := ⟨m - j - 1, by omega⟩
        have HR2 : Hid (RoundsD handD b (left + 1) k (ms)) := by have := HRO.out; rwa [hleft] at this
        have HL : Hid (m - (j + 1) = left) := by show _ = _; omega
        have hml : ms.length ≤ 2000 := by have := HML.out; omega
        have CO := Lib.hid (hand_any HRD.out hbw (by rw [List.length_drop]; omega))
        clear hleft hbw
        go_wp2_with fail
        refine CO.out.mono ?_
        rintro e w2 ⟨hb2, hc | hc⟩
        · obtain ⟨hd, rfl⟩ := hc
          have HS : Hid (handsD b = none) := rounds_only _ (roundsD_fail HR2.out hd)
          have HB2 := Lib.hid hb2
          clear hd hb2 CO
          go_wp2_with fail
          exact ⟨rfl, HBT.out.trans HB2.out (fun i _ e => e), .inl ⟨HS.out, rfl⟩⟩
        · obtain ⟨v, x, k1, hd, rfl, hkl1, hr2, hv⟩ := hc
          obtain rfl : v = .agg #[.int .i64 x.to, .int .i64 x.kind, .int .i64 x.table, .int .i64 x.col, .int .i64 x.lo, .int .i64 x.hi, .int .i64 x.amt] := hv
          have HN := Lib.hid (roundsD_next HR2.out hd)
          rw [List.length_drop] at hkl1
          rw [List.drop_drop] at hr2
          have hown2 := own_but HOW.out hb2 (fun q hq e => own_g HOW.out HGW.out (by rw [hq, e]))
          have hbt2 := HBT.out.trans hb2 (fun i _ e => e)
          have HBT2 := Lib.hid hbt2
          have HR2' := Lib.hid hr2
          clear hd hb2 hr2 hbt2 CO 
          go_wp2_with (at_builtin; refine wpList_pushH (H := w2.heap.size) elHand rfl _ _ rfl rfl rfl rfl hown2 rfl rfl (by unfold maxLen; omega) (by omega) HBT2.out.size ?_; intro v4 w4 hown4 hgrow4 hblk4)
          have hgr : w2.grownBy w4 (Value.slice a ms.length c).ownBlock := hgrow4
          have hrd4 := rdr_grown HR2'.out hgr (own_g hown2 HGW.out)
          have hbt4 := but_grown HBT2.out hown2 (Nat.le_refl _) hgr
          obtain ⟨a4, c4, rfl, -⟩ := Rd.of_own hown4
          go_roundw
          case rel =>
            refine ⟨j + 1, k + k1, ms ++ [x], a4, c4, by omega, by go_num, by rw [List.length_append]; rfl, by omega, (by show _ = _; rw [List.length_append, HML.out]; rfl), ?_, ?_, hrd4, hbt4⟩
            · show RoundsD handD b _ _ _
              rw [HL.out]
              exact HN.out
            · show World.ownsRow _ _ _ _ _ _ _
              rw [List.length_append, List.flatMap_append]
              simpa [HandT.cs] using hown4
          case measure => simp [intOf]; omega
      · have hjm : j = m := by omega
        have HS : Hid (handsD b = some (ms, k)) := by
          show _ = _
          have h1 := HRO.out
          rw [hjm, Nat.sub_self] at h1
          unfold handsD onlyD
          rw [roundsD_end h1]
          simp only
          rw [if_pos]
          rw [decide_eq_true_eq]
          have := HML.out
          omega
        clear hjm
        go_wp2_with fail
        go_ret
        exact ⟨HBT.out, .inr ⟨_, _, k, HS.out, rfl, hk, HRD.out, ms, a, c, rfl, rfl, HOW.out⟩⟩
end Go.Proofs.Ytliokkoalkhpaaa
