/-
  Layer 7 (multi): Values, Show. (printed by tools/gen_mv.py)
-/
import Derived.Test.YtagbaejgjhmokaaMX
import Derived.Test.YtagbaejgjhmokaaIW
namespace Go.Proofs.Ytagbaejgjhmokaa
open Go.RowKit Go.Sort Go.BigFrame

def vCs (l : List Val) : List Value := l.flatMap Val.cs
theorem vCs_length (l : List Val) : (vCs l).length = l.length * 3 := by
  induction l with
  | nil => rfl
  | cons a l ih =>
    have : vCs (a :: l) = a.cs ++ vCs l := rfl
    rw [this, List.length_append, ih, List.length_cons]
    simp [Val.cs]; omega
theorem vCs_app (l m : List Val) : vCs (l ++ m) = vCs l ++ vCs m := by simp [vCs]
theorem vCs_take (l : List Val) (i : Nat) : (vCs l).take (i * 3) = vCs (l.take i) := by
  induction l generalizing i with
  | nil => simp [vCs]
  | cons a l ih =>
    have he : vCs (a :: l) = a.cs ++ vCs l := rfl
    have hc : a.cs.length = 3 := rfl
    cases i with
    | zero => rfl
    | succ i =>
      rw [he, List.take_append, List.take_of_length_le (by omega), show (i + 1) * 3 - a.cs.length = i * 3 by omega, ih i]
      rfl
theorem vCs_drop (l : List Val) (i : Nat) : (vCs l).drop (i * 3) = vCs (l.drop i) := by
  induction l generalizing i with
  | nil => simp [vCs]
  | cons a l ih =>
    have he : vCs (a :: l) = a.cs ++ vCs l := rfl
    have hc : a.cs.length = 3 := rfl
    cases i with
    | zero => rfl
    | succ i =>
      rw [he, List.drop_append, List.drop_of_length_le (by omega), show (i + 1) * 3 - a.cs.length = i * 3 by omega, ih i]
      rfl
theorem oneVs (l : List Val) : ∀ u ∈ vCs l, u.oneCell' = true := by
  intro u hu
  obtain ⟨x, _, hx⟩ := List.mem_flatMap.1 hu
  simp only [Val.cs, List.mem_cons, List.not_mem_nil, or_false] at hx
  rcases hx with rfl | rfl | rfl <;> rfl
theorem vCs_at (l : List Val) (k : Nat) (hk : k < l.length) (j : Nat) (hj : j < 3) : (vCs l)[k * 3 + j]? = (l[k].cs)[j]? := by
  induction l generalizing k with
  | nil => cases hk
  | cons a l ih =>
    have he : vCs (a :: l) = a.cs ++ vCs l := rfl
    have hc : a.cs.length = 3 := rfl
    cases k with
    | zero =>
      rw [he, List.getElem?_append_left (by omega)]
      simp
    | succ k =>
      have := ih k (by simpa using hk)
      rw [he, List.getElem?_append_right (by omega), show (k + 1) * 3 + j - a.cs.length = k * 3 + j by omega]
      exact this
theorem rd_v {w : World} {ao : Option Addr} {n c : Nat} {l : List Val} (h : Rd w (.slice ao n c) n (vCs l)) (hl : n = l.length) (k : Nat) (hk : k < l.length) {x : Val} (hx : l[k] = x) :
    ∃ b o : Nat, (∀ W, (Instr.indexAt 47 (.slice ao n c) (.int .i64 (k : Int))).run Try.prog W = .ok (.pointer (some ⟨b, o, none⟩)) W) ∧ w.cell? ⟨b, o, none⟩ = some (.int .i64 x.k) ∧ w.cell? ⟨b, o + 1, none⟩ = some (.int .i64 x.n) ∧ w.cell? ⟨b, o + 2, none⟩ = some (.string x.s) ∧ b < w.heap.size := by
  subst hl
  subst hx
  obtain ⟨A, hA, _, hlt, hc⟩ := h.elem 3 k hk (vCs_length l) (by decide)
  obtain ⟨b, o, s⟩ := A
  have hs : s = none := by
    obtain ⟨u, _, hu⟩ := hc 0 (by decide)
    have := World.cell?_spot hu
    simpa [Addr.add] using this
  subst hs
  have key : ∀ j, j < 3 → ∀ u, (l[k].cs)[j]? = some u → w.cell? ⟨b, o + j, none⟩ = some u := by
    intro j hj u hu
    obtain ⟨u', h1, h2⟩ := hc j hj
    rw [vCs_at l k hk j hj, hu] at h1
    cases h1
    rw [Addr.add_lit] at h2
    exact h2
  exact ⟨b, o, fun W => run_indexAt_at elVs hA hk W, key 0 (by decide) _ rfl, key 1 (by decide) _ rfl, key 2 (by decide) _ rfl, hlt⟩

abbrev OwnV (w : World) (B : Nat) (v : Value) (l : List Val) : Prop := w.ownsRow B 23 3 v l.length (vCs l)

theorem addV_end {v : Val} : ∀ {l : List Val}, (∀ u ∈ l, lessV u v = true) → addV v l = l ++ [v]
  | [], _ => rfl
  | u :: l, h => by unfold addV; rw [if_pos (h u (by simp)), addV_end fun x hx => h x (by simp [hx])]; rfl
theorem addV_mid {v : Val} : ∀ {l : List Val} {j : Nat} {u : Val}, (∀ x ∈ l.take j, lessV x v = true) → l[j]? = some u → lessV u v = false → addV v l = if sameV u v = true then l else l.take j ++ v :: l.drop j
  | [], j, u, _, h, _ => by simp at h
  | y :: l, 0, u, _, h, hl => by
    cases h
    unfold addV
    rw [if_neg (by rw [hl]; simp)]
    split <;> rfl
  | y :: l, j + 1, u, h0, h, hl => by
    have ih := addV_mid (v := v) (l := l) (j := j) (u := u) (fun x hx => h0 x (by simp [hx])) (by simpa using h) hl
    unfold addV
    rw [if_pos (h0 y (by simp)), ih]
    split <;> simp

def ValsPost (w : World) (l : List Val) (e : Ending) (w' : World) : Prop := ∃ v', e = .returned v' ∧ OwnV w' w.heap.size v' l ∧ Below w.heap.size w w'

set_option maxRecDepth 100000 in
set_option maxHeartbeats 8000000 in
theorem values_any (kd : Int) (cv : Val) (va : Value) (l : List Prt) (w : World) (ha : PRd w va l) (hn : l.length ≤ 1000) :
    Calls Try.prog 24 #[.agg #[.int .i64 kd, .int .i64 cv.k, .int .i64 cv.n, .string cv.s, va]] w (ValsPost w (valsL l)) := by
  obtain ⟨ao, cc, rfl, hnc, hcm, _, _⟩ := id ha
  have hb1 := below_alloc w (.cells #[.int .i64 kd, .int .i64 cv.k, .int .i64 cv.n, .string cv.s, .slice ao l.length cc] 26)
  have HA := Lib.hid ha
  have HB1 := Lib.hid hb1
  obtain ⟨n, hln⟩ : ∃ n, l.length = n := ⟨_, rfl⟩
  have HLN := Lib.hid hln
  rw [hln] at hnc hn HB1 ⊢
  unfold maxLen at hcm
  clear ha hb1 hln
  go_enter Try.func24, Try.ntmps24
  go_wp2_with fail
  go_loopw [3, 10] (fun vo vi wr => ∃ k : Nat, k ≤ n ∧ vi = .int .i64 k ∧ Hid (OwnV wr w.heap.size vo (valsL (l.take k))) ∧ Hid (Below w.heap.size w wr)) (fun _ vi _ => n - (intOf vi).toNat)
  case atStart => exact ⟨0, Nat.zero_le _, rfl, World.ownsRow_nil _ _ _ _, HB1.out⟩
  case round =>
    obtain ⟨k, hk, rfl, ho, hbw⟩ := hrel
    rename World => wr
    by_cases hlt : k < n
    · have hkl : k < l.length := by have := HLN.out; omega
      obtain ⟨x, hx⟩ : ∃ x, l[k] = x := ⟨_, rfl⟩
      obtain ⟨q1, o1, x1, c0, c1, c2, c3, c4, c5, c6, c7, c8, c9, c10, _⟩ := rd_prt (HA.out.later hbw.out) rfl k hkl hx
      rw [HLN.out] at x1
      have hnx := valsL_next l k hkl
      rw [hx] at hnx
      have hol := (valsL_take l k (by omega)).2.2
      obtain ⟨O, hO⟩ : ∃ O, valsL (l.take k) = O := ⟨_, rfl⟩
      rw [hO] at hnx ho hol
      obtain ⟨a1, c1, rfl, hnc1, hcm1, _, _⟩ := Rd.of_own ho.out
      obtain ⟨m, hm⟩ : ∃ m, O.length = m := ⟨_, rfl⟩
      have HOL := Lib.hid hm
      have HNX := Lib.hid hnx
      have hbx := below_alloc wr (.cells #[.int .i64 x.v.k, .int .i64 x.v.n, .string x.v.s, .int .i64 x.d.dev, .int .i64 x.d.seq, .int .i64 x.at_, .int .i64 x.tm, .int .i64 x.aft.dev, .int .i64 x.aft.seq, .int .i64 x.aat, .bool x.gone] 32)
      have HO := Lib.hid (own_later ho.out hbx)
      have HBW := Lib.hid (below_then hbw.out hbx)
      unfold OwnV at HO
      rw [hm] at HO hol hnc1 ⊢
      unfold maxLen at hcm1
      obtain ⟨w2, hw2⟩ : ∃ w2, wr.alloc (.cells #[.int .i64 x.v.k, .int .i64 x.v.n, .string x.v.s, .int .i64 x.d.dev, .int .i64 x.d.seq, .int .i64 x.at_, .int .i64 x.tm, .int .i64 x.aft.dev, .int .i64 x.aft.seq, .int .i64 x.aat, .bool x.gone] 32) = w2 := ⟨_, rfl⟩
      have bx : Bx w2 wr.heap.size #[.int .i64 x.v.k, .int .i64 x.v.n, .string x.v.s, .int .i64 x.d.dev, .int .i64 x.d.seq, .int .i64 x.at_, .int .i64 x.tm, .int .i64 x.aft.dev, .int .i64 x.aft.seq, .int .i64 x.aat, .bool x.gone] 32 := by rw [← hw2]; exact bx_new rfl
      have BX := Lib.hid bx
      have HW2 := Lib.hid hw2
      rw [hw2] at HO HBW
      clear hx hnx hO hm hbx bx hw2 ho
      go_wp2_with fail
      rw [HW2.out]
      obtain ⟨qb, hqb⟩ : ∃ qb, wr.heap.size = qb := ⟨_, rfl⟩
      rw [hqb] at BX ⊢
      clear HW2 hqb x1 hbw c2 c3 c4 c5 c6 c7 c8 c9 c10 c0
      go_loopw [6] (fun vat w3 => ∃ j : Nat, j ≤ m ∧ vat = .int .i64 j ∧ Hid (∀ u ∈ O.take j, lessV u x.v = true) ∧ Hid (Below w2.heap.size w2 w3)) (fun vat _ => m - (intOf vat).toNat)
      case atStart => exact ⟨0, Nat.zero_le _, rfl, (fun u hu => by simp at hu), Below.refl _ _⟩
      case round =>
        obtain ⟨j, hj, rfl, hless, hb3⟩ := hrel
        rename World => w3
        have bx3 := bx_later hb3.out BX.out
        have b0 := cell_of_box bx3 0 rfl
        have b1 := cell_of_box bx3 1 rfl
        have b2 := cell_of_box bx3 2 rfl
        clear bx3
        by_cases hjm : j < m
        · have hjO : j < O.length := by have := HOL.out; omega
          obtain ⟨u, hu⟩ : ∃ u, O[j] = u := ⟨_, rfl⟩
          have hgu : O[j]? = some u := by rw [List.getElem?_eq_getElem hjO, hu]
          obtain ⟨q2, o2, x2, e0, e1, e2, _⟩ := rd_v ((Rd.of_own HO.out).later hb3.out) HOL.out.symm j hjO hu
          have HU := Lib.hid hu
          have HGU := Lib.hid hgu
          have HJO := Lib.hid hjO
          have hjf : decide (j < m) = true := decide_eq_true hjm
          have hji : (j : Int) < (m : Int) := by omega
          have hji2 : decide ((j : Int) < (m : Int)) = true := decide_eq_true hji
          have hne : ((j : Int) == (m : Int)) = false := by simp; omega
          clear hu hgu
          cases hl : lessV u x.v
          all_goals
            have cS : ∀ d os, Calls Try.prog 45 #[(.agg #[.int .i64 u.k, .int .i64 u.n, .string u.s]), (.agg #[.int .i64 x.v.k, .int .i64 x.v.n, .string x.v.s])] (grow (redrawn w3 d) os) fun e w'' => e = .returned (.bool (lessV u x.v)) ∧ ∃ p : Regrown, w'' = grow (redrawn w3 p.d) p.os := fun d os => Calls.regrown_of ((lessV_any u.k u.n u.s x.v.k x.v.n x.v.s _))
            rw [hl] at cS
            have HL := Lib.hid hl
            clear hl
          · go_wp2_with fail
            have kb0 := cell_regrown b0
            have kb1 := cell_regrown b1
            have kb2 := cell_regrown b2
            have ke0 := cell_regrown e0
            have ke1 := cell_regrown e1
            have ke2 := cell_regrown e2
            refine wp_region_quiet_below (by kernel_rfl) (by kernel_rfl) ?_
            repeat (go_big_quiet_step (first | exact cS _ _))
            refine wpQuiet_nil ?_
            intro _ hw'
            obtain ⟨⟨dq, osq⟩, hw''⟩ := hw'
            subst hw''
            clear kb0 kb1 kb2 ke0 ke1 ke2 cS
            have hb4 := below_regrown w3 dq osq
            generalize grow (redrawn w3 dq) osq = w4 at *
            replace b0 := cell_later hb4 b0
            replace b1 := cell_later hb4 b1
            replace b2 := cell_later hb4 b2
            replace e0 := cell_later hb4 e0
            replace e1 := cell_later hb4 e1
            replace e2 := cell_later hb4 e2
            have HB4 := Lib.hid (below_then hb3.out hb4)
            have HBW4 := Lib.hid (below_then HBW.out HB4.out)
            have HO4 := Lib.hid (own_later HO.out HB4.out)
            clear hb4
            cases hs : sameV u x.v
            all_goals
              have cT : ∀ d os, Calls Try.prog 46 #[(.agg #[.int .i64 u.k, .int .i64 u.n, .string u.s]), (.agg #[.int .i64 x.v.k, .int .i64 x.v.n, .string x.v.s])] (grow (redrawn w4 d) os) fun e w'' => e = .returned (.bool (sameV u x.v)) ∧ ∃ p : Regrown, w'' = grow (redrawn w4 p.d) p.os := fun d os => Calls.regrown_of ((sameV_any u.k u.n u.s x.v.k x.v.n x.v.s _))
              rw [hs] at cT
              have HADD0 := addV_mid (v := x.v) hless.out HGU.out HL.out
              rw [hs] at HADD0
              simp only [Bool.false_eq_true, if_false, if_true] at HADD0
              have HADD := Lib.hid HADD0
              clear hs HADD0
            · go_wp2_with fail
              have kb0 := cell_regrown b0
              have kb1 := cell_regrown b1
              have kb2 := cell_regrown b2
              have ke0 := cell_regrown e0
              have ke1 := cell_regrown e1
              have ke2 := cell_regrown e2
              refine wp_region_quiet_below (by kernel_rfl) (by kernel_rfl) ?_
              repeat (go_big_quiet_step (first | exact cT _ _))
              refine wpQuiet_nil ?_
              intro _ hw'
              obtain ⟨⟨dq, osq⟩, hw''⟩ := hw'
              subst hw''
              clear kb0 kb1 kb2 ke0 ke1 ke2 cT
              have hb6 := below_regrown w4 dq osq
              generalize grow (redrawn w4 dq) osq = w6 at *
              replace b0 := cell_later hb6 b0
              replace b1 := cell_later hb6 b1
              replace b2 := cell_later hb6 b2
              replace e0 := cell_later hb6 e0
              replace e1 := cell_later hb6 e1
              replace e2 := cell_later hb6 e2
              have HO4 := Lib.hid (own_later HO4.out hb6)
              have HBW4 := Lib.hid (below_then HBW4.out hb6)
              clear hb6
              have hbl := below_alloc w6 (.cells (Val.cs x.v).toArray 23)
              have hins := insertV_any w.heap.size (.slice a1 m c1) m j (vCs O) (Val.cs x.v) (w6.alloc (.cells (Val.cs x.v).toArray 23)) w6.heap.size (own_later HO4.out hbl) (heap_alloc_new _ _) (fun e => by have := (HO4.out.lt _ e).2; omega) rfl
                (by intro u hu; simp only [Val.cs, List.mem_cons, List.not_mem_nil, or_false] at hu; rcases hu with rfl | rfl | rfl <;> rfl) (oneVs O) (by omega) (by omega) (Nat.le_trans HBW4.out.size hbl.size)
              have HINS := Lib.hid hins
              have HBL := Lib.hid hbl
              clear hins hbl
              go_wp2_with fail
              refine HINS.out.mono ?_
              rintro e w5 ⟨v5, rfl, hown5, hgrow5⟩
              have HO5 : Hid (OwnV w5 w.heap.size v5 (addV x.v O)) := by
                have he := HADD.out
                show World.ownsRow _ _ _ _ _ _ _
                rw [he]
                have hl : (O.take j ++ x.v :: O.drop j).length = m + 1 := by
                  have := congrArg List.length (List.take_append_drop j O)
                  rw [List.length_append] at this
                  rw [List.length_append, List.length_cons]
                  have := HOL.out; omega
                rw [hl, show vCs (O.take j ++ x.v :: O.drop j) = (vCs O).take (j * 3) ++ Val.cs x.v ++ (vCs O).drop (j * 3) by rw [vCs_take, vCs_drop]; simp [vCs]]
                exact hown5
              have HB5 := Lib.hid ((below_then HBW4.out HBL.out).grown hgrow5 (below_then HBW4.out HBL.out).size (fun kk hk => (HO4.out.lt kk hk).1))
              clear hown5 hgrow5 HINS
              go_wp2_with fail
              go_roundw
              case rel => exact ⟨k + 1, by omega, by go_num, by rw [HNX.out]; exact HO5.out, HB5.out⟩
              case measure => simp [intOf]; omega
            · go_wp2_with fail
              have kb0 := cell_regrown b0
              have kb1 := cell_regrown b1
              have kb2 := cell_regrown b2
              have ke0 := cell_regrown e0
              have ke1 := cell_regrown e1
              have ke2 := cell_regrown e2
              refine wp_region_quiet_below (by kernel_rfl) (by kernel_rfl) ?_
              repeat (go_big_quiet_step (first | exact cT _ _))
              refine wpQuiet_nil ?_
              intro _ hw'
              obtain ⟨⟨dq, osq⟩, hw''⟩ := hw'
              subst hw''
              clear kb0 kb1 kb2 ke0 ke1 ke2 cT
              have hb6 := below_regrown w4 dq osq
              generalize grow (redrawn w4 dq) osq = w6 at *
              replace b0 := cell_later hb6 b0
              replace b1 := cell_later hb6 b1
              replace b2 := cell_later hb6 b2
              replace e0 := cell_later hb6 e0
              replace e1 := cell_later hb6 e1
              replace e2 := cell_later hb6 e2
              have HO4 := Lib.hid (own_later HO4.out hb6)
              have HBW4 := Lib.hid (below_then HBW4.out hb6)
              clear hb6
              go_wp2_with fail
              go_roundw
              case rel => exact ⟨k + 1, by omega, by go_num, by rw [HNX.out, HADD.out]; show World.ownsRow _ _ _ _ _ _ _; rw [HOL.out]; exact HO4.out, HBW4.out⟩
              case measure => simp [intOf]; omega
          · go_wp2_with fail
            have kb0 := cell_regrown b0
            have kb1 := cell_regrown b1
            have kb2 := cell_regrown b2
            have ke0 := cell_regrown e0
            have ke1 := cell_regrown e1
            have ke2 := cell_regrown e2
            refine wp_region_quiet_below (by kernel_rfl) (by kernel_rfl) ?_
            repeat (go_big_quiet_step (first | exact cS _ _))
            refine wpQuiet_nil ?_
            intro _ hw'
            obtain ⟨⟨dq, osq⟩, hw''⟩ := hw'
            subst hw''
            clear kb0 kb1 kb2 ke0 ke1 ke2 cS
            have hb4 := below_regrown w3 dq osq
            generalize grow (redrawn w3 dq) osq = w4 at *
            replace b0 := cell_later hb4 b0
            replace b1 := cell_later hb4 b1
            replace b2 := cell_later hb4 b2
            replace e0 := cell_later hb4 e0
            replace e1 := cell_later hb4 e1
            replace e2 := cell_later hb4 e2
            have HB4 := Lib.hid (below_then hb3.out hb4)
            clear hb4
            go_wp2_with fail
            go_roundw
            case rel =>
              refine ⟨j + 1, by omega, by go_num, ?_, HB4.out⟩
              intro y hy
              rw [List.take_succ_eq_append_getElem HJO.out] at hy
              rcases List.mem_append.1 hy with hy | hy
              · exact hless.out y hy
              · rw [List.mem_singleton.1 hy, HU.out]; exact HL.out
            case measure => simp [intOf]; omega
        · have hjm2 : j = m := by omega
          subst hjm2
          have hjf : decide (j < j) = false := by simp
          have HADD : Hid (addV x.v O = O.take j ++ x.v :: O.drop j) := by
            show _ = _
            have hlen := HOL.out
            rw [List.take_of_length_le (by omega), List.drop_of_length_le (by omega)]
            exact addV_end (by have := hless.out; rwa [List.take_of_length_le (by omega)] at this)
          have heq : ((j : Int) == (j : Int)) = true := by simp
          go_wp2_with fail
          have kb0 := cell_regrown b0
          have kb1 := cell_regrown b1
          have kb2 := cell_regrown b2
          refine wp_region_quiet_below (by kernel_rfl) (by kernel_rfl) ?_
          repeat (go_big_quiet_step (first | fail))
          refine wpQuiet_nil ?_
          intro _ hw'
          obtain ⟨⟨dq, osq⟩, hw''⟩ := hw'
          subst hw''
          clear kb0 kb1 kb2
          have hb4 := below_regrown w3 dq osq
          generalize grow (redrawn w3 dq) osq = w4 at *
          replace b0 := cell_later hb4 b0
          replace b1 := cell_later hb4 b1
          replace b2 := cell_later hb4 b2
          have HB4 := Lib.hid (below_then hb3.out hb4)
          clear hb4
          go_wp2_with fail
          have kb0 := cell_regrown b0
          have kb1 := cell_regrown b1
          have kb2 := cell_regrown b2
          refine wp_region_quiet_below (by kernel_rfl) (by kernel_rfl) ?_
          repeat (go_big_quiet_step (first | fail))
          refine wpQuiet_nil ?_
          intro _ hw'
          obtain ⟨⟨dq, osq⟩, hw''⟩ := hw'
          subst hw''
          clear kb0 kb1 kb2
          have hb6 := below_regrown w4 dq osq
          generalize grow (redrawn w4 dq) osq = w6 at *
          replace b0 := cell_later hb6 b0
          replace b1 := cell_later hb6 b1
          replace b2 := cell_later hb6 b2
          have HB6 := Lib.hid (below_then HB4.out hb6)
          have HBW4 := Lib.hid (below_then HBW.out HB6.out)
          have HO4 := Lib.hid (own_later HO.out HB6.out)
          clear hb6
          have hbl := below_alloc w6 (.cells (Val.cs x.v).toArray 23)
          have hins := insertV_any w.heap.size (.slice a1 j c1) j j (vCs O) (Val.cs x.v) (w6.alloc (.cells (Val.cs x.v).toArray 23)) w6.heap.size (own_later HO4.out hbl) (heap_alloc_new _ _) (fun e => by have := (HO4.out.lt _ e).2; omega) rfl
            (by intro u hu; simp only [Val.cs, List.mem_cons, List.not_mem_nil, or_false] at hu; rcases hu with rfl | rfl | rfl <;> rfl) (oneVs O) (by omega) (by omega) (Nat.le_trans HBW4.out.size hbl.size)
          have HINS := Lib.hid hins
          have HBL := Lib.hid hbl
          clear hins hbl
          go_wp2_with fail
          refine HINS.out.mono ?_
          rintro e w5 ⟨v5, rfl, hown5, hgrow5⟩
          have HO5 : Hid (OwnV w5 w.heap.size v5 (addV x.v O)) := by
            have he := HADD.out
            show World.ownsRow _ _ _ _ _ _ _
            rw [he]
            have hl : (O.take j ++ x.v :: O.drop j).length = j + 1 := by
              have := congrArg List.length (List.take_append_drop j O)
              rw [List.length_append] at this
              rw [List.length_append, List.length_cons]
              have := HOL.out; omega
            rw [hl, show vCs (O.take j ++ x.v :: O.drop j) = (vCs O).take (j * 3) ++ Val.cs x.v ++ (vCs O).drop (j * 3) by rw [vCs_take, vCs_drop]; simp [vCs]]
            exact hown5
          have HB5 := Lib.hid ((below_then HBW4.out HBL.out).grown hgrow5 (below_then HBW4.out HBL.out).size (fun kk hk => (HO4.out.lt kk hk).1))
          clear hown5 hgrow5 HINS
          go_wp2_with fail
          go_roundw
          case rel => exact ⟨k + 1, by omega, by go_num, by rw [HNX.out]; exact HO5.out, HB5.out⟩
          case measure => simp [intOf]; omega
    · have hkn : k = n := by omega
      subst hkn
      have ho2 := ho.out
      rw [List.take_of_length_le (by have := HLN.out; omega)] at ho2
      have HO2 := Lib.hid ho2
      clear ho2
      go_wp2_with fail
      go_ret
      exact ⟨_, rfl, HO2.out, hbw.out⟩

theorem show_last {l : List Prt} {m : Nat} (h : (valsL l).length = m + 1) (hm : m < (valsL l).length) : showL l = (valsL l)[m] := by
  unfold showL
  rw [List.getLast?_eq_getElem?, h, Nat.add_sub_cancel, List.getElem?_eq_getElem hm]; rfl
theorem show_none {l : List Prt} (h : valsL l = []) : showL l = nilV := by
  unfold showL; rw [h]; rfl

set_option maxRecDepth 100000 in
set_option maxHeartbeats 2000000 in
theorem show_any (kd : Int) (cv : Val) (va : Value) (l : List Prt) (w : World) (ha : PRd w va l) (hn : l.length ≤ 1000) :
    Calls Try.prog 23 #[.agg #[.int .i64 kd, .int .i64 cv.k, .int .i64 cv.n, .string cv.s, va]] w fun e w' => e = .returned (showL l).agg ∧ Below w.heap.size w w' := by
  have hb1 : ∀ o o', Below w.heap.size w ((w.alloc o).alloc o') := fun o o' => below_alloc_then (below_alloc _ _)
  obtain ⟨ao, cc, rfl, _⟩ := id ha
  obtain ⟨w1, hw1⟩ : ∃ w1, (w.alloc (.cells #[.int .i64 kd, .int .i64 cv.k, .int .i64 cv.n, .string cv.s, .slice ao l.length cc] 26)).alloc (.cells #[.int .i64 0, .int .i64 0, .string ⟨#[]⟩] 23) = w1 := ⟨_, rfl⟩
  have hbw : Below w.heap.size w w1 := by rw [← hw1]; exact hb1 _ _
  have b0 : Bx w1 w.heap.size #[.int .i64 kd, .int .i64 cv.k, .int .i64 cv.n, .string cv.s, .slice ao l.length cc] 26 := by rw [← hw1]; exact bx_later (below_alloc _ _) (bx_new rfl)
  have b1 : Bx w1 (w.heap.size + 1) #[.int .i64 0, .int .i64 0, .string ⟨#[]⟩] 23 := by rw [← hw1]; exact bx_new (by simp)
  have HV := Lib.hid (values_any kd cv _ l w1 (ha.later hbw) hn)
  have HW := Lib.hid hw1
  have HBW := Lib.hid hbw
  have B1 := Lib.hid b1
  have y0 := cell_of_box b0 0 rfl
  have y1 := cell_of_box b0 1 rfl
  have y2 := cell_of_box b0 2 rfl
  have y3 := cell_of_box b0 3 rfl
  have y4 := cell_of_box b0 4 rfl
  have hlv := valsL_len l
  clear hb1 hw1 hbw b0 b1 ha
  go_enter Try.func23, Try.ntmps23
  go_wp2_with fail
  rw [HW.out]
  go_wp2_with fail
  refine HV.out.mono ?_
  rintro e w2 ⟨v1, rfl, hown, hb2⟩
  have b2 := bx_later hb2 B1.out
  have z0 := cell_of_box b2 0 rfl
  have z1 := cell_of_box b2 1 rfl
  have z2 := cell_of_box b2 2 rfl
  have f0 := frozen_of_box b2 0
  have f1 := frozen_of_box b2 1
  have f2 := frozen_of_box b2 2
  have HB2 := Lib.hid (below_then HBW.out hb2)
  obtain ⟨a1, c1, rfl, _, hcm, _, _⟩ := Rd.of_own hown
  unfold maxLen at hcm
  by_cases hl : valsL l = []
  · have hsh := show_none hl
    have HSH := Lib.hid hsh
    rw [hl, List.length_nil]
    clear hown hb2 b2 hsh hlv hl y0 y1 y2 y3 y4 hcm
    go_wp2_with fail
    refine bodyPost_ret (v := (showL l).agg) (by rw [HSH.out]; simp [results, Try.results23, go_sem, z0, z1, z2, nilV]) rfl ⟨rfl, ?_⟩
    repeat' (first | with_reducible apply Below.setCell | exact HB2.out)
    all_goals (simp <;> omega)
  · obtain ⟨m, hm⟩ : ∃ m, (valsL l).length = m + 1 := ⟨(valsL l).length - 1, by have := List.length_pos_iff.2 hl; omega⟩
    have hml : m < (valsL l).length := by omega
    have hsh := show_last hm hml
    obtain ⟨u, hu⟩ : ∃ u, (valsL l)[m] = u := ⟨_, rfl⟩
    obtain ⟨q2, o2, x2, e0, e1, e2, _⟩ := rd_v (Rd.of_own hown) rfl m hml hu
    rw [hu] at hsh
    have HSH := Lib.hid hsh
    rw [hm] at x2 hlv ⊢
    have hq0 : (((m + 1 : Nat) : Int) == 0) = false := by simp; omega
    have hq1 : ((m + 1 : Nat) : Int) - 1 = (m : Int) := by omega
    obtain ⟨mm, hmm⟩ : ∃ mm, m + 1 = mm := ⟨_, rfl⟩
    rw [hmm] at hq0 hq1 x2 ⊢
    have hmm2 : m < mm := by omega
    have hmm3 : mm ≤ 1000 := by omega
    have hmm4 : (m : Int) < (mm : Int) := by omega
    clear hown hb2 b2 hsh hl hlv hm hml hu y0 y1 y2 y3 y4 hmm hcm
    go_wp2_with fail
    refine bodyPost_ret (v := (showL l).agg) (by rw [HSH.out]; simp [results, Try.results23, go_sem, z0, z1, z2]) rfl ⟨rfl, ?_⟩
    repeat' (first | with_reducible apply Below.setCell | exact HB2.out)
    all_goals (simp <;> omega)
end Go.Proofs.Ytagbaejgjhmokaa
