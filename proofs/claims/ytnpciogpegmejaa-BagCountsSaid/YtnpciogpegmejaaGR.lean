/-
  Layer 9 (bag): which cells may be: Right. (printed by tools/gen_gr.py)
-/
import Derived.Test.YtnpciogpegmejaaGA
namespace Go.Proofs.Ytnpciogpegmejaa
open Go.RowKit Go.Sort Go.BigFrame

def RightQPost (kd : Int) (cv : Val) (w : World) (l : List Prt) (e : Ending) (w' : World) : Prop := ∃ b, e = .returned (.bool b) ∧ (b = true ↔ RightQ kd cv l) ∧ Below w.heap.size w w'

/-- The part at place k may be there. -/
def RAt (l : List Prt) (k : Nat) : Prop := ∃ x, l[k]? = some x ∧ okQ x = true ∧ ∀ y, 0 < k → l[k - 1]? = some y → ltQ y x = true
theorem ra_all {l : List Prt} (h : ∀ k, k < l.length → RAt l k) : (∀ p ∈ l, okQ p = true) ∧ RiseQ l := by
  refine ⟨fun p hp => ?_, ?_⟩
  · obtain ⟨k, hk, rfl⟩ := List.mem_iff_getElem.1 hp
    obtain ⟨x, hx, h1, _⟩ := h k hk
    rw [List.getElem?_eq_getElem hk] at hx
    cases hx
    exact h1
  · refine List.pairwise_iff_getElem.2 ?_
    intro i j hi hj hij
    obtain ⟨n, rfl⟩ : ∃ n, j = i + 1 + n := ⟨j - i - 1, by omega⟩
    clear hij
    have step : ∀ m (hm : m + 1 < l.length), ltQ (l[m]'(by omega)) l[m + 1] = true := by
      intro m hm
      obtain ⟨x, hx, _, h1⟩ := h (m + 1) hm
      rw [List.getElem?_eq_getElem hm] at hx
      cases hx
      exact h1 _ (by omega) (by rw [Nat.add_sub_cancel, List.getElem?_eq_getElem (show m < l.length by omega)])
    induction n with
    | zero => exact step i hj
    | succ n ih => exact ltQ_trans (ih (by omega) step) (step (i + 1 + n) hj)
theorem ra_of {kd : Int} {cv : Val} {l : List Prt} (h : RightQ kd cv l) {k : Nat} (hk : k < l.length) : RAt l k :=
  ⟨l[k], List.getElem?_eq_getElem hk, h.ok _ (List.getElem_mem hk), fun y h0 hy => by
    rw [List.getElem?_eq_getElem (show k - 1 < l.length by omega)] at hy
    cases hy
    exact List.pairwise_iff_getElem.1 h.rise (k - 1) k (by omega) hk (by omega)⟩
theorem rc_not {kd : Int} {cv : Val} {l : List Prt} {k : Nat} (hk : k < l.length) (h : ¬ RAt l k) : (((false : Bool) = true) ↔ RightQ kd cv l) :=
  ⟨(fun e => by cases e), fun e => absurd (ra_of e hk) h⟩
theorem rc_kind {kd : Int} {cv : Val} {l : List Prt} (h : ¬ (kd = 3 ∧ cv = nilV)) : (((false : Bool) = true) ↔ RightQ kd cv l) :=
  ⟨(fun e => by cases e), fun e => absurd ⟨e.kind, e.val⟩ h⟩
theorem rc_yes {l : List Prt} (h : ∀ k, k < l.length → RAt l k) : (((true : Bool) = true) ↔ RightQ 3 ⟨0, 0, ⟨#[]⟩⟩ l) :=
  ⟨fun _ => ⟨rfl, rfl, (ra_all h).1, (ra_all h).2⟩, fun _ => rfl⟩
theorem ra_next {l : List Prt} {k : Nat} (h : ∀ j, j < k → RAt l j) (h' : RAt l k) : ∀ j, j < k + 1 → RAt l j := fun j hj => by
  rcases Nat.lt_or_ge j k with h1 | h1
  · exact h j h1
  · obtain rfl : j = k := by omega
    exact h'
theorem ra_bad {l : List Prt} {k : Nat} {x : Prt} (hx : l[k]? = some x) (h : okQ x = false) : ¬ RAt l k := fun ⟨y, hy, h1, _⟩ => by
  rw [hx] at hy; cases hy; rw [h] at h1; cases h1
theorem ra_less {l : List Prt} {k j : Nat} {x y : Prt} (hj : k = j + 1) (hx : l[k]? = some x) (hy : l[j]? = some y) (h : ltQ y x = false) : ¬ RAt l k := fun ⟨u, hu, _, h1⟩ => by
  rw [hx] at hu; cases hu
  have := h1 y (by omega) (by rw [hj]; exact hy)
  rw [h] at this; cases this
theorem ra_yes0 {l : List Prt} {x : Prt} (hx : l[0]? = some x) (h : okQ x = true) : RAt l 0 := ⟨x, hx, h, fun y hk => absurd hk (by omega)⟩
theorem ra_yes {l : List Prt} {k j : Nat} {x y : Prt} (hj : k = j + 1) (hx : l[k]? = some x) (hy : l[j]? = some y) (h : okQ x = true) (hl : ltQ y x = true) : RAt l k :=
  ⟨x, hx, h, fun u _ hu => by rw [hj, Nat.add_sub_cancel, hy] at hu; cases hu; exact hl⟩
theorem okQ_bare {n : Int} {s : ByteArray} {d : Dt} (hv : rightV ⟨1, n, s⟩ = true) (h1 : 1 ≤ d.dev) (h2 : d.dev ≤ 64) (h3 : 1 ≤ d.seq) (h4 : d.seq ≤ 1048576) : okQ ⟨⟨1, n, s⟩, d, 0, 0, ⟨0, 0⟩, 0, false⟩ = true := by
  show (decide (bareP ⟨1, n, s⟩ d = bareP ⟨1, n, s⟩ d) && decide ((1 : Int) = 1) && rightV ⟨1, n, s⟩ && decide (1 ≤ d.dev ∧ d.dev ≤ 64) && decide (1 ≤ d.seq ∧ d.seq ≤ 1048576)) = true
  rw [hv, decide_eq_true (show 1 ≤ d.dev ∧ d.dev ≤ 64 from ⟨h1, h2⟩), decide_eq_true (show 1 ≤ d.seq ∧ d.seq ≤ 1048576 from ⟨h3, h4⟩), decide_eq_true (show bareP ⟨1, n, s⟩ d = bareP ⟨1, n, s⟩ d from rfl)]
  rfl
theorem okQ_val {p : Prt} (h : rightV p.v = false) : okQ p = false := by simp [okQ, h]
theorem okQ_knd {p : Prt} (h : p.v.k ≠ 1) : okQ p = false := by simp [okQ, h]
theorem okQ_dev {p : Prt} (h : ¬ (1 ≤ p.d.dev ∧ p.d.dev ≤ 64)) : okQ p = false := by
  unfold okQ; rw [decide_eq_false h]; simp
theorem okQ_seq {p : Prt} (h : ¬ (1 ≤ p.d.seq ∧ p.d.seq ≤ 1048576)) : okQ p = false := by
  unfold okQ; rw [decide_eq_false h]; simp
theorem okQ_more {p : Prt} (h : p ≠ bareP p.v p.d) : okQ p = false := by
  unfold okQ; rw [decide_eq_false h]; rfl

set_option maxRecDepth 100000 in
set_option maxHeartbeats 8000000 in
theorem bright_any (kd : Int) (cv : Val) (va : Value) (l : List Prt) (w : World) (ha : PRd w va l) (hn : l.length ≤ 1000000) :
    Calls Try.prog 10 #[.agg #[.int .i64 kd, .int .i64 cv.k, .int .i64 cv.n, .string cv.s, va]] w (RightQPost kd cv w l) := by
  obtain ⟨ao, ca, rfl, hnc, hcm, _, _⟩ := id ha
  obtain ⟨ck, cn, cs⟩ := cv
  obtain ⟨w1, hw1⟩ : ∃ w1, w.alloc (.cells #[.int .i64 kd, .int .i64 ck, .int .i64 cn, .string cs, .slice ao l.length ca] 26) = w1 := ⟨_, rfl⟩
  have hb1 : Below w.heap.size w w1 := by rw [← hw1]; exact below_alloc _ _
  have b0 : Bx w1 w.heap.size #[.int .i64 kd, .int .i64 ck, .int .i64 cn, .string cs, .slice ao l.length ca] 26 := by rw [← hw1]; exact bx_new rfl
  have HA := Lib.hid ha
  have HW0 := Lib.hid hw1
  have HB := Lib.hid hb1
  obtain ⟨n, hln⟩ : ∃ n, l.length = n := ⟨_, rfl⟩
  have HLN := Lib.hid hln
  rw [hln] at hnc hn HW0 b0 ⊢
  unfold maxLen at hcm
  have B0 := Lib.hid b0
  have y0 := cell_of_box b0 0 rfl
  have y1 := cell_of_box b0 1 rfl
  have y2 := cell_of_box b0 2 rfl
  have y3 := cell_of_box b0 3 rfl
  have y4 := cell_of_box b0 4 rfl
  clear ha hln hw1 hb1 b0
  rcases Decidable.em (kd = 3) with hv | hv
  rotate_left
  · have hvb : (kd == 3) = false := by simpa using hv
    have hvb2 : (kd != 3) = true := by simpa using hv
    have HV := Lib.hid hv
    clear hv
    go_enter Try.func10, Try.ntmps10
    go_wp2_with fail
    rw [HW0.out]
    go_wp2_with fail
    go_ret
    exact ⟨false, rfl, rc_kind (fun h => HV.out h.1), HB.out⟩
  subst hv
  rcases Decidable.em (ck = 0) with hv | hv
  rotate_left
  · have hvb : (ck == 0) = false := by simpa using hv
    have hvb2 : (ck != 0) = true := by simpa using hv
    have HV := Lib.hid hv
    clear hv
    go_enter Try.func10, Try.ntmps10
    go_wp2_with fail
    rw [HW0.out]
    go_wp2_with fail
    go_ret
    exact ⟨false, rfl, rc_kind (fun h => HV.out (congrArg Val.k h.2)), HB.out⟩
  subst hv
  rcases Decidable.em (cn = 0) with hv | hv
  rotate_left
  · have hvb : (cn == 0) = false := by simpa using hv
    have hvb2 : (cn != 0) = true := by simpa using hv
    have HV := Lib.hid hv
    clear hv
    go_enter Try.func10, Try.ntmps10
    go_wp2_with fail
    rw [HW0.out]
    go_wp2_with fail
    go_ret
    exact ⟨false, rfl, rc_kind (fun h => HV.out (congrArg Val.n h.2)), HB.out⟩
  subst hv
  rcases Decidable.em (cs = ⟨#[]⟩) with hv | hv
  rotate_left
  · have hv0 : ¬ cs.toList = [] := fun h => hv (toList_inj (by rw [h, ByteArray.toList_eq]))
    have hvb : cs.toList.isEmpty = false := by simpa using hv0
    have hvb2 : (!cs.toList.isEmpty) = true := by rw [hvb]; rfl
    have HV := Lib.hid hv
    clear hv
    go_enter Try.func10, Try.ntmps10
    go_wp2_with fail
    rw [HW0.out]
    go_wp2_with fail
    go_ret
    exact ⟨false, rfl, rc_kind (fun h => HV.out (congrArg Val.s h.2)), HB.out⟩
  subst hv
  go_enter Try.func10, Try.ntmps10
  go_wp2_with fail
  rw [HW0.out]
  go_wp2_with fail
  clear y0 y1 y2 y3 y4
  go_loopw [18] (fun vi wr => ∃ k : Nat, k ≤ n ∧ vi = .int .i64 k ∧ Hid (∀ j, j < k → RAt l j) ∧ Hid (Below w1.heap.size w1 wr)) (fun vi _ => n - (intOf vi).toNat)
  case atStart => exact ⟨0, Nat.zero_le _, rfl, (fun j hj => absurd hj (by omega)), Below.refl _ _⟩
  case round =>
    obtain ⟨k, hk, rfl, hall, hbw⟩ := hrel
    rename World => wr
    have y4 := cell_of_box (bx_later hbw.out B0.out) 4 rfl
    by_cases hlt : k < n
    · have hkl : k < l.length := by have := HLN.out; omega
      obtain ⟨x, hx⟩ : ∃ x, l[k] = x := ⟨_, rfl⟩
      have hgx : l[k]? = some x := by rw [List.getElem?_eq_getElem hkl, hx]
      obtain ⟨b1, o1, x1, c0, c1, c2, c3, c4, c5, c6, c7, c8, c9, c10, _⟩ := rd_prt (HA.out.later (below_then HB.out hbw.out)) rfl k hkl hx
      rw [HLN.out] at x1
      have HX := Lib.hid hgx
      clear hx hgx
      obtain ⟨⟨vk, vn, vs⟩, ⟨dd, ds⟩, xat, xtm, ⟨xad, xas⟩, xaat, xg⟩ := x
      have hbx : Below wr.heap.size wr ((wr.alloc (.cells #[.int .i64 vk, .int .i64 vn, .string vs, .int .i64 dd, .int .i64 ds, .int .i64 xat, .int .i64 xtm, .int .i64 xad, .int .i64 xas, .int .i64 xaat, .bool xg] 43)).alloc (.cells #[.int .i64 vk, .int .i64 vn, .string vs, .int .i64 dd, .int .i64 ds, .int .i64 0, .int .i64 0, .int .i64 0, .int .i64 0, .int .i64 0, .bool false] 43)) := below_alloc_then (below_alloc _ _)
      obtain ⟨w2, hw2⟩ : ∃ w2, (wr.alloc (.cells #[.int .i64 vk, .int .i64 vn, .string vs, .int .i64 dd, .int .i64 ds, .int .i64 xat, .int .i64 xtm, .int .i64 xad, .int .i64 xas, .int .i64 xaat, .bool xg] 43)).alloc (.cells #[.int .i64 vk, .int .i64 vn, .string vs, .int .i64 dd, .int .i64 ds, .int .i64 0, .int .i64 0, .int .i64 0, .int .i64 0, .int .i64 0, .bool false] 43) = w2 := ⟨_, rfl⟩
      have bx0 : Bx w2 wr.heap.size #[.int .i64 vk, .int .i64 vn, .string vs, .int .i64 dd, .int .i64 ds, .int .i64 xat, .int .i64 xtm, .int .i64 xad, .int .i64 xas, .int .i64 xaat, .bool xg] 43 := by rw [← hw2]; exact bx_later (below_alloc _ _) (bx_new rfl)
      have bx1 : Bx w2 (wr.heap.size + 1) #[.int .i64 vk, .int .i64 vn, .string vs, .int .i64 dd, .int .i64 ds, .int .i64 0, .int .i64 0, .int .i64 0, .int .i64 0, .int .i64 0, .bool false] 43 := by rw [← hw2]; exact bx_new (by simp)
      rw [hw2] at hbx
      have e0 := cell_of_box bx0 0 rfl
      have e1 := cell_of_box bx0 1 rfl
      have e2 := cell_of_box bx0 2 rfl
      have e3 := cell_of_box bx0 3 rfl
      have e4 := cell_of_box bx0 4 rfl
      have e5 := cell_of_box bx0 5 rfl
      have e6 := cell_of_box bx0 6 rfl
      have e7 := cell_of_box bx0 7 rfl
      have e8 := cell_of_box bx0 8 rfl
      have e9 := cell_of_box bx0 9 rfl
      have e10 := cell_of_box bx0 10 rfl
      have f0 := cell_of_box bx1 0 rfl
      have f1 := cell_of_box bx1 1 rfl
      have f2 := cell_of_box bx1 2 rfl
      have f3 := cell_of_box bx1 3 rfl
      have f4 := cell_of_box bx1 4 rfl
      have f5 := cell_of_box bx1 5 rfl
      have f6 := cell_of_box bx1 6 rfl
      have f7 := cell_of_box bx1 7 rfl
      have f8 := cell_of_box bx1 8 rfl
      have f9 := cell_of_box bx1 9 rfl
      have f10 := cell_of_box bx1 10 rfl
      replace y4 := cell_later hbx y4
      have HW := Lib.hid hw2
      have HBX := Lib.hid hbx
      clear hw2 hbx bx0 bx1
      rcases Decidable.em (xat = 0) with hv | hv
      rotate_left
      · have hvb : (xat == 0) = false := by simpa using hv
        have HV := Lib.hid hv
        clear hv
        go_wp2_with fail
        rw [HW.out]
        have ky4 := cell_regrown y4
        have ke0 := cell_regrown e0
        have ke1 := cell_regrown e1
        have ke2 := cell_regrown e2
        have ke3 := cell_regrown e3
        have ke4 := cell_regrown e4
        have ke5 := cell_regrown e5
        have ke6 := cell_regrown e6
        have ke7 := cell_regrown e7
        have ke8 := cell_regrown e8
        have ke9 := cell_regrown e9
        have ke10 := cell_regrown e10
        have kf0 := cell_regrown f0
        have kf1 := cell_regrown f1
        have kf2 := cell_regrown f2
        have kf3 := cell_regrown f3
        have kf4 := cell_regrown f4
        have kf5 := cell_regrown f5
        have kf6 := cell_regrown f6
        have kf7 := cell_regrown f7
        have kf8 := cell_regrown f8
        have kf9 := cell_regrown f9
        have kf10 := cell_regrown f10
        refine wp_region_quiet_below (by kernel_rfl) (by kernel_rfl) ?_
        repeat (go_big_quiet_step (first | fail))
        refine wpQuiet_nil ?_
        intro _ hw'
        obtain ⟨⟨dq, osq⟩, hw''⟩ := hw'
        subst hw''
        clear ky4 ke0 ke1 ke2 ke3 ke4 ke5 ke6 ke7 ke8 ke9 ke10 kf0 kf1 kf2 kf3 kf4 kf5 kf6 kf7 kf8 kf9 kf10
        have hb3 := below_regrown w2 dq osq
        generalize grow (redrawn w2 dq) osq = w3 at *
        replace y4 := cell_later hb3 y4
        replace e0 := cell_later hb3 e0
        replace e1 := cell_later hb3 e1
        replace e2 := cell_later hb3 e2
        replace e3 := cell_later hb3 e3
        replace e4 := cell_later hb3 e4
        replace e5 := cell_later hb3 e5
        replace e6 := cell_later hb3 e6
        replace e7 := cell_later hb3 e7
        replace e8 := cell_later hb3 e8
        replace e9 := cell_later hb3 e9
        replace e10 := cell_later hb3 e10
        replace f0 := cell_later hb3 f0
        replace f1 := cell_later hb3 f1
        replace f2 := cell_later hb3 f2
        replace f3 := cell_later hb3 f3
        replace f4 := cell_later hb3 f4
        replace f5 := cell_later hb3 f5
        replace f6 := cell_later hb3 f6
        replace f7 := cell_later hb3 f7
        replace f8 := cell_later hb3 f8
        replace f9 := cell_later hb3 f9
        replace f10 := cell_later hb3 f10
        have HB3 := Lib.hid (below_then hbw.out (below_then HBX.out hb3))
        clear hb3
        go_wp2_with fail
        go_ret
        exact ⟨false, rfl, rc_not (by have := HLN.out; omega) (ra_bad HX.out (okQ_more fun e => by have := congrArg (fun p : Prt => p.at_) e; simp [bareP] at this; exact HV.out (by omega))), below_then HB.out HB3.out⟩
      subst hv
      rcases Decidable.em (xtm = 0) with hv | hv
      rotate_left
      · have hvb : (xtm == 0) = false := by simpa using hv
        have HV := Lib.hid hv
        clear hv
        go_wp2_with fail
        rw [HW.out]
        have ky4 := cell_regrown y4
        have ke0 := cell_regrown e0
        have ke1 := cell_regrown e1
        have ke2 := cell_regrown e2
        have ke3 := cell_regrown e3
        have ke4 := cell_regrown e4
        have ke5 := cell_regrown e5
        have ke6 := cell_regrown e6
        have ke7 := cell_regrown e7
        have ke8 := cell_regrown e8
        have ke9 := cell_regrown e9
        have ke10 := cell_regrown e10
        have kf0 := cell_regrown f0
        have kf1 := cell_regrown f1
        have kf2 := cell_regrown f2
        have kf3 := cell_regrown f3
        have kf4 := cell_regrown f4
        have kf5 := cell_regrown f5
        have kf6 := cell_regrown f6
        have kf7 := cell_regrown f7
        have kf8 := cell_regrown f8
        have kf9 := cell_regrown f9
        have kf10 := cell_regrown f10
        refine wp_region_quiet_below (by kernel_rfl) (by kernel_rfl) ?_
        repeat (go_big_quiet_step (first | fail))
        refine wpQuiet_nil ?_
        intro _ hw'
        obtain ⟨⟨dq, osq⟩, hw''⟩ := hw'
        subst hw''
        clear ky4 ke0 ke1 ke2 ke3 ke4 ke5 ke6 ke7 ke8 ke9 ke10 kf0 kf1 kf2 kf3 kf4 kf5 kf6 kf7 kf8 kf9 kf10
        have hb3 := below_regrown w2 dq osq
        generalize grow (redrawn w2 dq) osq = w3 at *
        replace y4 := cell_later hb3 y4
        replace e0 := cell_later hb3 e0
        replace e1 := cell_later hb3 e1
        replace e2 := cell_later hb3 e2
        replace e3 := cell_later hb3 e3
        replace e4 := cell_later hb3 e4
        replace e5 := cell_later hb3 e5
        replace e6 := cell_later hb3 e6
        replace e7 := cell_later hb3 e7
        replace e8 := cell_later hb3 e8
        replace e9 := cell_later hb3 e9
        replace e10 := cell_later hb3 e10
        replace f0 := cell_later hb3 f0
        replace f1 := cell_later hb3 f1
        replace f2 := cell_later hb3 f2
        replace f3 := cell_later hb3 f3
        replace f4 := cell_later hb3 f4
        replace f5 := cell_later hb3 f5
        replace f6 := cell_later hb3 f6
        replace f7 := cell_later hb3 f7
        replace f8 := cell_later hb3 f8
        replace f9 := cell_later hb3 f9
        replace f10 := cell_later hb3 f10
        have HB3 := Lib.hid (below_then hbw.out (below_then HBX.out hb3))
        clear hb3
        go_wp2_with fail
        go_ret
        exact ⟨false, rfl, rc_not (by have := HLN.out; omega) (ra_bad HX.out (okQ_more fun e => by have := congrArg (fun p : Prt => p.tm) e; simp [bareP] at this; exact HV.out (by omega))), below_then HB.out HB3.out⟩
      subst hv
      rcases Decidable.em (xad = 0) with hv | hv
      rotate_left
      · have hvb : (xad == 0) = false := by simpa using hv
        have HV := Lib.hid hv
        clear hv
        go_wp2_with fail
        rw [HW.out]
        have ky4 := cell_regrown y4
        have ke0 := cell_regrown e0
        have ke1 := cell_regrown e1
        have ke2 := cell_regrown e2
        have ke3 := cell_regrown e3
        have ke4 := cell_regrown e4
        have ke5 := cell_regrown e5
        have ke6 := cell_regrown e6
        have ke7 := cell_regrown e7
        have ke8 := cell_regrown e8
        have ke9 := cell_regrown e9
        have ke10 := cell_regrown e10
        have kf0 := cell_regrown f0
        have kf1 := cell_regrown f1
        have kf2 := cell_regrown f2
        have kf3 := cell_regrown f3
        have kf4 := cell_regrown f4
        have kf5 := cell_regrown f5
        have kf6 := cell_regrown f6
        have kf7 := cell_regrown f7
        have kf8 := cell_regrown f8
        have kf9 := cell_regrown f9
        have kf10 := cell_regrown f10
        refine wp_region_quiet_below (by kernel_rfl) (by kernel_rfl) ?_
        repeat (go_big_quiet_step (first | fail))
        refine wpQuiet_nil ?_
        intro _ hw'
        obtain ⟨⟨dq, osq⟩, hw''⟩ := hw'
        subst hw''
        clear ky4 ke0 ke1 ke2 ke3 ke4 ke5 ke6 ke7 ke8 ke9 ke10 kf0 kf1 kf2 kf3 kf4 kf5 kf6 kf7 kf8 kf9 kf10
        have hb3 := below_regrown w2 dq osq
        generalize grow (redrawn w2 dq) osq = w3 at *
        replace y4 := cell_later hb3 y4
        replace e0 := cell_later hb3 e0
        replace e1 := cell_later hb3 e1
        replace e2 := cell_later hb3 e2
        replace e3 := cell_later hb3 e3
        replace e4 := cell_later hb3 e4
        replace e5 := cell_later hb3 e5
        replace e6 := cell_later hb3 e6
        replace e7 := cell_later hb3 e7
        replace e8 := cell_later hb3 e8
        replace e9 := cell_later hb3 e9
        replace e10 := cell_later hb3 e10
        replace f0 := cell_later hb3 f0
        replace f1 := cell_later hb3 f1
        replace f2 := cell_later hb3 f2
        replace f3 := cell_later hb3 f3
        replace f4 := cell_later hb3 f4
        replace f5 := cell_later hb3 f5
        replace f6 := cell_later hb3 f6
        replace f7 := cell_later hb3 f7
        replace f8 := cell_later hb3 f8
        replace f9 := cell_later hb3 f9
        replace f10 := cell_later hb3 f10
        have HB3 := Lib.hid (below_then hbw.out (below_then HBX.out hb3))
        clear hb3
        go_wp2_with fail
        go_ret
        exact ⟨false, rfl, rc_not (by have := HLN.out; omega) (ra_bad HX.out (okQ_more fun e => by have := congrArg (fun p : Prt => p.aft.dev) e; simp [bareP] at this; exact HV.out (by omega))), below_then HB.out HB3.out⟩
      subst hv
      rcases Decidable.em (xas = 0) with hv | hv
      rotate_left
      · have hvb : (xas == 0) = false := by simpa using hv
        have HV := Lib.hid hv
        clear hv
        go_wp2_with fail
        rw [HW.out]
        have ky4 := cell_regrown y4
        have ke0 := cell_regrown e0
        have ke1 := cell_regrown e1
        have ke2 := cell_regrown e2
        have ke3 := cell_regrown e3
        have ke4 := cell_regrown e4
        have ke5 := cell_regrown e5
        have ke6 := cell_regrown e6
        have ke7 := cell_regrown e7
        have ke8 := cell_regrown e8
        have ke9 := cell_regrown e9
        have ke10 := cell_regrown e10
        have kf0 := cell_regrown f0
        have kf1 := cell_regrown f1
        have kf2 := cell_regrown f2
        have kf3 := cell_regrown f3
        have kf4 := cell_regrown f4
        have kf5 := cell_regrown f5
        have kf6 := cell_regrown f6
        have kf7 := cell_regrown f7
        have kf8 := cell_regrown f8
        have kf9 := cell_regrown f9
        have kf10 := cell_regrown f10
        refine wp_region_quiet_below (by kernel_rfl) (by kernel_rfl) ?_
        repeat (go_big_quiet_step (first | fail))
        refine wpQuiet_nil ?_
        intro _ hw'
        obtain ⟨⟨dq, osq⟩, hw''⟩ := hw'
        subst hw''
        clear ky4 ke0 ke1 ke2 ke3 ke4 ke5 ke6 ke7 ke8 ke9 ke10 kf0 kf1 kf2 kf3 kf4 kf5 kf6 kf7 kf8 kf9 kf10
        have hb3 := below_regrown w2 dq osq
        generalize grow (redrawn w2 dq) osq = w3 at *
        replace y4 := cell_later hb3 y4
        replace e0 := cell_later hb3 e0
        replace e1 := cell_later hb3 e1
        replace e2 := cell_later hb3 e2
        replace e3 := cell_later hb3 e3
        replace e4 := cell_later hb3 e4
        replace e5 := cell_later hb3 e5
        replace e6 := cell_later hb3 e6
        replace e7 := cell_later hb3 e7
        replace e8 := cell_later hb3 e8
        replace e9 := cell_later hb3 e9
        replace e10 := cell_later hb3 e10
        replace f0 := cell_later hb3 f0
        replace f1 := cell_later hb3 f1
        replace f2 := cell_later hb3 f2
        replace f3 := cell_later hb3 f3
        replace f4 := cell_later hb3 f4
        replace f5 := cell_later hb3 f5
        replace f6 := cell_later hb3 f6
        replace f7 := cell_later hb3 f7
        replace f8 := cell_later hb3 f8
        replace f9 := cell_later hb3 f9
        replace f10 := cell_later hb3 f10
        have HB3 := Lib.hid (below_then hbw.out (below_then HBX.out hb3))
        clear hb3
        go_wp2_with fail
        go_ret
        exact ⟨false, rfl, rc_not (by have := HLN.out; omega) (ra_bad HX.out (okQ_more fun e => by have := congrArg (fun p : Prt => p.aft.seq) e; simp [bareP] at this; exact HV.out (by omega))), below_then HB.out HB3.out⟩
      subst hv
      rcases Decidable.em (xaat = 0) with hv | hv
      rotate_left
      · have hvb : (xaat == 0) = false := by simpa using hv
        have HV := Lib.hid hv
        clear hv
        go_wp2_with fail
        rw [HW.out]
        have ky4 := cell_regrown y4
        have ke0 := cell_regrown e0
        have ke1 := cell_regrown e1
        have ke2 := cell_regrown e2
        have ke3 := cell_regrown e3
        have ke4 := cell_regrown e4
        have ke5 := cell_regrown e5
        have ke6 := cell_regrown e6
        have ke7 := cell_regrown e7
        have ke8 := cell_regrown e8
        have ke9 := cell_regrown e9
        have ke10 := cell_regrown e10
        have kf0 := cell_regrown f0
        have kf1 := cell_regrown f1
        have kf2 := cell_regrown f2
        have kf3 := cell_regrown f3
        have kf4 := cell_regrown f4
        have kf5 := cell_regrown f5
        have kf6 := cell_regrown f6
        have kf7 := cell_regrown f7
        have kf8 := cell_regrown f8
        have kf9 := cell_regrown f9
        have kf10 := cell_regrown f10
        refine wp_region_quiet_below (by kernel_rfl) (by kernel_rfl) ?_
        repeat (go_big_quiet_step (first | fail))
        refine wpQuiet_nil ?_
        intro _ hw'
        obtain ⟨⟨dq, osq⟩, hw''⟩ := hw'
        subst hw''
        clear ky4 ke0 ke1 ke2 ke3 ke4 ke5 ke6 ke7 ke8 ke9 ke10 kf0 kf1 kf2 kf3 kf4 kf5 kf6 kf7 kf8 kf9 kf10
        have hb3 := below_regrown w2 dq osq
        generalize grow (redrawn w2 dq) osq = w3 at *
        replace y4 := cell_later hb3 y4
        replace e0 := cell_later hb3 e0
        replace e1 := cell_later hb3 e1
        replace e2 := cell_later hb3 e2
        replace e3 := cell_later hb3 e3
        replace e4 := cell_later hb3 e4
        replace e5 := cell_later hb3 e5
        replace e6 := cell_later hb3 e6
        replace e7 := cell_later hb3 e7
        replace e8 := cell_later hb3 e8
        replace e9 := cell_later hb3 e9
        replace e10 := cell_later hb3 e10
        replace f0 := cell_later hb3 f0
        replace f1 := cell_later hb3 f1
        replace f2 := cell_later hb3 f2
        replace f3 := cell_later hb3 f3
        replace f4 := cell_later hb3 f4
        replace f5 := cell_later hb3 f5
        replace f6 := cell_later hb3 f6
        replace f7 := cell_later hb3 f7
        replace f8 := cell_later hb3 f8
        replace f9 := cell_later hb3 f9
        replace f10 := cell_later hb3 f10
        have HB3 := Lib.hid (below_then hbw.out (below_then HBX.out hb3))
        clear hb3
        go_wp2_with fail
        go_ret
        exact ⟨false, rfl, rc_not (by have := HLN.out; omega) (ra_bad HX.out (okQ_more fun e => by have := congrArg (fun p : Prt => p.aat) e; simp [bareP] at this; exact HV.out (by omega))), below_then HB.out HB3.out⟩
      subst hv
      rcases Bool.eq_false_or_eq_true xg with hv | hv
      · subst hv
        go_wp2_with fail
        rw [HW.out]
        have ky4 := cell_regrown y4
        have ke0 := cell_regrown e0
        have ke1 := cell_regrown e1
        have ke2 := cell_regrown e2
        have ke3 := cell_regrown e3
        have ke4 := cell_regrown e4
        have ke5 := cell_regrown e5
        have ke6 := cell_regrown e6
        have ke7 := cell_regrown e7
        have ke8 := cell_regrown e8
        have ke9 := cell_regrown e9
        have ke10 := cell_regrown e10
        have kf0 := cell_regrown f0
        have kf1 := cell_regrown f1
        have kf2 := cell_regrown f2
        have kf3 := cell_regrown f3
        have kf4 := cell_regrown f4
        have kf5 := cell_regrown f5
        have kf6 := cell_regrown f6
        have kf7 := cell_regrown f7
        have kf8 := cell_regrown f8
        have kf9 := cell_regrown f9
        have kf10 := cell_regrown f10
        refine wp_region_quiet_below (by kernel_rfl) (by kernel_rfl) ?_
        repeat (go_big_quiet_step (first | fail))
        refine wpQuiet_nil ?_
        intro _ hw'
        obtain ⟨⟨dq, osq⟩, hw''⟩ := hw'
        subst hw''
        clear ky4 ke0 ke1 ke2 ke3 ke4 ke5 ke6 ke7 ke8 ke9 ke10 kf0 kf1 kf2 kf3 kf4 kf5 kf6 kf7 kf8 kf9 kf10
        have hb3 := below_regrown w2 dq osq
        generalize grow (redrawn w2 dq) osq = w3 at *
        replace y4 := cell_later hb3 y4
        replace e0 := cell_later hb3 e0
        replace e1 := cell_later hb3 e1
        replace e2 := cell_later hb3 e2
        replace e3 := cell_later hb3 e3
        replace e4 := cell_later hb3 e4
        replace e5 := cell_later hb3 e5
        replace e6 := cell_later hb3 e6
        replace e7 := cell_later hb3 e7
        replace e8 := cell_later hb3 e8
        replace e9 := cell_later hb3 e9
        replace e10 := cell_later hb3 e10
        replace f0 := cell_later hb3 f0
        replace f1 := cell_later hb3 f1
        replace f2 := cell_later hb3 f2
        replace f3 := cell_later hb3 f3
        replace f4 := cell_later hb3 f4
        replace f5 := cell_later hb3 f5
        replace f6 := cell_later hb3 f6
        replace f7 := cell_later hb3 f7
        replace f8 := cell_later hb3 f8
        replace f9 := cell_later hb3 f9
        replace f10 := cell_later hb3 f10
        have HB3 := Lib.hid (below_then hbw.out (below_then HBX.out hb3))
        clear hb3
        go_wp2_with fail
        go_ret
        exact ⟨false, rfl, rc_not (by have := HLN.out; omega) (ra_bad HX.out (okQ_more fun e => by have := congrArg Prt.gone e; cases this)), below_then HB.out HB3.out⟩
      subst hv
      rcases Decidable.em (vk = 1) with hv | hv
      rotate_left
      · have hvb : (vk == 1) = false := by simpa using hv
        have hvb2 : (vk != 1) = true := by simpa using hv
        have HV := Lib.hid hv
        clear hv
        go_wp2_with fail
        rw [HW.out]
        have ky4 := cell_regrown y4
        have ke0 := cell_regrown e0
        have ke1 := cell_regrown e1
        have ke2 := cell_regrown e2
        have ke3 := cell_regrown e3
        have ke4 := cell_regrown e4
        have ke5 := cell_regrown e5
        have ke6 := cell_regrown e6
        have ke7 := cell_regrown e7
        have ke8 := cell_regrown e8
        have ke9 := cell_regrown e9
        have ke10 := cell_regrown e10
        have kf0 := cell_regrown f0
        have kf1 := cell_regrown f1
        have kf2 := cell_regrown f2
        have kf3 := cell_regrown f3
        have kf4 := cell_regrown f4
        have kf5 := cell_regrown f5
        have kf6 := cell_regrown f6
        have kf7 := cell_regrown f7
        have kf8 := cell_regrown f8
        have kf9 := cell_regrown f9
        have kf10 := cell_regrown f10
        refine wp_region_quiet_below (by kernel_rfl) (by kernel_rfl) ?_
        repeat (go_big_quiet_step (first | fail))
        refine wpQuiet_nil ?_
        intro _ hw'
        obtain ⟨⟨dq, osq⟩, hw''⟩ := hw'
        subst hw''
        clear ky4 ke0 ke1 ke2 ke3 ke4 ke5 ke6 ke7 ke8 ke9 ke10 kf0 kf1 kf2 kf3 kf4 kf5 kf6 kf7 kf8 kf9 kf10
        have hb3 := below_regrown w2 dq osq
        generalize grow (redrawn w2 dq) osq = w3 at *
        replace y4 := cell_later hb3 y4
        replace e0 := cell_later hb3 e0
        replace e1 := cell_later hb3 e1
        replace e2 := cell_later hb3 e2
        replace e3 := cell_later hb3 e3
        replace e4 := cell_later hb3 e4
        replace e5 := cell_later hb3 e5
        replace e6 := cell_later hb3 e6
        replace e7 := cell_later hb3 e7
        replace e8 := cell_later hb3 e8
        replace e9 := cell_later hb3 e9
        replace e10 := cell_later hb3 e10
        replace f0 := cell_later hb3 f0
        replace f1 := cell_later hb3 f1
        replace f2 := cell_later hb3 f2
        replace f3 := cell_later hb3 f3
        replace f4 := cell_later hb3 f4
        replace f5 := cell_later hb3 f5
        replace f6 := cell_later hb3 f6
        replace f7 := cell_later hb3 f7
        replace f8 := cell_later hb3 f8
        replace f9 := cell_later hb3 f9
        replace f10 := cell_later hb3 f10
        have HB3 := Lib.hid (below_then hbw.out (below_then HBX.out hb3))
        clear hb3
        go_wp2_with fail
        go_ret
        exact ⟨false, rfl, rc_not (by have := HLN.out; omega) (ra_bad HX.out (okQ_knd HV.out)), below_then HB.out HB3.out⟩
      subst hv
      rcases Bool.eq_false_or_eq_true (rightV ⟨1, vn, vs⟩) with hrv | hrv
      rotate_left
      · skip
        have cS : ∀ d os, Calls Try.prog 27 #[.agg #[.int .i64 1, .int .i64 vn, .string vs]] (grow (redrawn w2 d) os) fun e w'' => e = .returned (.bool (rightV ⟨1, vn, vs⟩)) ∧ ∃ p : Regrown, w'' = grow (redrawn w2 p.d) p.os := fun d os => Calls.regrown_of ((rightV_any 1 vn vs _))
        rw [hrv] at cS
        have HR := Lib.hid hrv
        clear hrv
        go_wp2_with fail
        rw [HW.out]
        have ky4 := cell_regrown y4
        have ke0 := cell_regrown e0
        have ke1 := cell_regrown e1
        have ke2 := cell_regrown e2
        have ke3 := cell_regrown e3
        have ke4 := cell_regrown e4
        have ke5 := cell_regrown e5
        have ke6 := cell_regrown e6
        have ke7 := cell_regrown e7
        have ke8 := cell_regrown e8
        have ke9 := cell_regrown e9
        have ke10 := cell_regrown e10
        have kf0 := cell_regrown f0
        have kf1 := cell_regrown f1
        have kf2 := cell_regrown f2
        have kf3 := cell_regrown f3
        have kf4 := cell_regrown f4
        have kf5 := cell_regrown f5
        have kf6 := cell_regrown f6
        have kf7 := cell_regrown f7
        have kf8 := cell_regrown f8
        have kf9 := cell_regrown f9
        have kf10 := cell_regrown f10
        refine wp_region_quiet_below (by kernel_rfl) (by kernel_rfl) ?_
        repeat (go_big_quiet_step (first | exact cS _ _))
        refine wpQuiet_nil ?_
        intro _ hw'
        obtain ⟨⟨dq, osq⟩, hw''⟩ := hw'
        subst hw''
        clear ky4 ke0 ke1 ke2 ke3 ke4 ke5 ke6 ke7 ke8 ke9 ke10 kf0 kf1 kf2 kf3 kf4 kf5 kf6 kf7 kf8 kf9 kf10 cS
        have hb3 := below_regrown w2 dq osq
        generalize grow (redrawn w2 dq) osq = w3 at *
        replace y4 := cell_later hb3 y4
        replace e0 := cell_later hb3 e0
        replace e1 := cell_later hb3 e1
        replace e2 := cell_later hb3 e2
        replace e3 := cell_later hb3 e3
        replace e4 := cell_later hb3 e4
        replace e5 := cell_later hb3 e5
        replace e6 := cell_later hb3 e6
        replace e7 := cell_later hb3 e7
        replace e8 := cell_later hb3 e8
        replace e9 := cell_later hb3 e9
        replace e10 := cell_later hb3 e10
        replace f0 := cell_later hb3 f0
        replace f1 := cell_later hb3 f1
        replace f2 := cell_later hb3 f2
        replace f3 := cell_later hb3 f3
        replace f4 := cell_later hb3 f4
        replace f5 := cell_later hb3 f5
        replace f6 := cell_later hb3 f6
        replace f7 := cell_later hb3 f7
        replace f8 := cell_later hb3 f8
        replace f9 := cell_later hb3 f9
        replace f10 := cell_later hb3 f10
        have HB3 := Lib.hid (below_then hbw.out (below_then HBX.out hb3))
        clear hb3
        go_wp2_with fail
        go_ret
        exact ⟨false, rfl, rc_not (by have := HLN.out; omega) (ra_bad HX.out (okQ_val HR.out)), below_then HB.out HB3.out⟩
      have cS : ∀ d os, Calls Try.prog 27 #[.agg #[.int .i64 1, .int .i64 vn, .string vs]] (grow (redrawn w2 d) os) fun e w'' => e = .returned (.bool (rightV ⟨1, vn, vs⟩)) ∧ ∃ p : Regrown, w'' = grow (redrawn w2 p.d) p.os := fun d os => Calls.regrown_of ((rightV_any 1 vn vs _))
      rw [hrv] at cS
      have HR := Lib.hid hrv
      clear hrv
      rcases Decidable.em (dd < 1) with hq | hq
      · skip
        have q1 : decide (dd < 1) = true := decide_eq_true (by omega)
        have q2 : decide (1 ≤ dd) = false := decide_eq_false (by omega)
        go_wp2_with fail
        rw [HW.out]
        have ky4 := cell_regrown y4
        have ke0 := cell_regrown e0
        have ke1 := cell_regrown e1
        have ke2 := cell_regrown e2
        have ke3 := cell_regrown e3
        have ke4 := cell_regrown e4
        have ke5 := cell_regrown e5
        have ke6 := cell_regrown e6
        have ke7 := cell_regrown e7
        have ke8 := cell_regrown e8
        have ke9 := cell_regrown e9
        have ke10 := cell_regrown e10
        have kf0 := cell_regrown f0
        have kf1 := cell_regrown f1
        have kf2 := cell_regrown f2
        have kf3 := cell_regrown f3
        have kf4 := cell_regrown f4
        have kf5 := cell_regrown f5
        have kf6 := cell_regrown f6
        have kf7 := cell_regrown f7
        have kf8 := cell_regrown f8
        have kf9 := cell_regrown f9
        have kf10 := cell_regrown f10
        refine wp_region_quiet_below (by kernel_rfl) (by kernel_rfl) ?_
        repeat (go_big_quiet_step (first | exact cS _ _))
        refine wpQuiet_nil ?_
        intro _ hw'
        obtain ⟨⟨dq, osq⟩, hw''⟩ := hw'
        subst hw''
        clear ky4 ke0 ke1 ke2 ke3 ke4 ke5 ke6 ke7 ke8 ke9 ke10 kf0 kf1 kf2 kf3 kf4 kf5 kf6 kf7 kf8 kf9 kf10 cS
        have hb3 := below_regrown w2 dq osq
        generalize grow (redrawn w2 dq) osq = w3 at *
        replace y4 := cell_later hb3 y4
        replace e0 := cell_later hb3 e0
        replace e1 := cell_later hb3 e1
        replace e2 := cell_later hb3 e2
        replace e3 := cell_later hb3 e3
        replace e4 := cell_later hb3 e4
        replace e5 := cell_later hb3 e5
        replace e6 := cell_later hb3 e6
        replace e7 := cell_later hb3 e7
        replace e8 := cell_later hb3 e8
        replace e9 := cell_later hb3 e9
        replace e10 := cell_later hb3 e10
        replace f0 := cell_later hb3 f0
        replace f1 := cell_later hb3 f1
        replace f2 := cell_later hb3 f2
        replace f3 := cell_later hb3 f3
        replace f4 := cell_later hb3 f4
        replace f5 := cell_later hb3 f5
        replace f6 := cell_later hb3 f6
        replace f7 := cell_later hb3 f7
        replace f8 := cell_later hb3 f8
        replace f9 := cell_later hb3 f9
        replace f10 := cell_later hb3 f10
        have HB3 := Lib.hid (below_then hbw.out (below_then HBX.out hb3))
        clear hb3
        go_wp2_with fail
        go_ret
        exact ⟨false, rfl, rc_not (by have := HLN.out; omega) (ra_bad HX.out (okQ_dev (fun h => by have h1 : 1 ≤ dd := h.1; omega))), below_then HB.out HB3.out⟩
      have q1 : decide (dd < 1) = false := decide_eq_false hq
      have q2 : decide (1 ≤ dd) = true := decide_eq_true (by omega)
      have g1 : 1 ≤ dd := by omega
      clear hq
      rcases Decidable.em (64 < dd) with hq | hq
      · skip
        have q3 : decide (64 < dd) = true := decide_eq_true (by omega)
        have q4 : decide (dd ≤ 64) = false := decide_eq_false (by omega)
        go_wp2_with fail
        rw [HW.out]
        have ky4 := cell_regrown y4
        have ke0 := cell_regrown e0
        have ke1 := cell_regrown e1
        have ke2 := cell_regrown e2
        have ke3 := cell_regrown e3
        have ke4 := cell_regrown e4
        have ke5 := cell_regrown e5
        have ke6 := cell_regrown e6
        have ke7 := cell_regrown e7
        have ke8 := cell_regrown e8
        have ke9 := cell_regrown e9
        have ke10 := cell_regrown e10
        have kf0 := cell_regrown f0
        have kf1 := cell_regrown f1
        have kf2 := cell_regrown f2
        have kf3 := cell_regrown f3
        have kf4 := cell_regrown f4
        have kf5 := cell_regrown f5
        have kf6 := cell_regrown f6
        have kf7 := cell_regrown f7
        have kf8 := cell_regrown f8
        have kf9 := cell_regrown f9
        have kf10 := cell_regrown f10
        refine wp_region_quiet_below (by kernel_rfl) (by kernel_rfl) ?_
        repeat (go_big_quiet_step (first | exact cS _ _))
        refine wpQuiet_nil ?_
        intro _ hw'
        obtain ⟨⟨dq, osq⟩, hw''⟩ := hw'
        subst hw''
        clear ky4 ke0 ke1 ke2 ke3 ke4 ke5 ke6 ke7 ke8 ke9 ke10 kf0 kf1 kf2 kf3 kf4 kf5 kf6 kf7 kf8 kf9 kf10 cS
        have hb3 := below_regrown w2 dq osq
        generalize grow (redrawn w2 dq) osq = w3 at *
        replace y4 := cell_later hb3 y4
        replace e0 := cell_later hb3 e0
        replace e1 := cell_later hb3 e1
        replace e2 := cell_later hb3 e2
        replace e3 := cell_later hb3 e3
        replace e4 := cell_later hb3 e4
        replace e5 := cell_later hb3 e5
        replace e6 := cell_later hb3 e6
        replace e7 := cell_later hb3 e7
        replace e8 := cell_later hb3 e8
        replace e9 := cell_later hb3 e9
        replace e10 := cell_later hb3 e10
        replace f0 := cell_later hb3 f0
        replace f1 := cell_later hb3 f1
        replace f2 := cell_later hb3 f2
        replace f3 := cell_later hb3 f3
        replace f4 := cell_later hb3 f4
        replace f5 := cell_later hb3 f5
        replace f6 := cell_later hb3 f6
        replace f7 := cell_later hb3 f7
        replace f8 := cell_later hb3 f8
        replace f9 := cell_later hb3 f9
        replace f10 := cell_later hb3 f10
        have HB3 := Lib.hid (below_then hbw.out (below_then HBX.out hb3))
        clear hb3
        go_wp2_with fail
        go_ret
        exact ⟨false, rfl, rc_not (by have := HLN.out; omega) (ra_bad HX.out (okQ_dev (fun h => by have h1 : dd ≤ 64 := h.2; omega))), below_then HB.out HB3.out⟩
      have q3 : decide (64 < dd) = false := decide_eq_false hq
      have q4 : decide (dd ≤ 64) = true := decide_eq_true (by omega)
      have g2 : dd ≤ 64 := by omega
      clear hq
      rcases Decidable.em (ds < 1) with hq | hq
      · skip
        have q5 : decide (ds < 1) = true := decide_eq_true (by omega)
        have q6 : decide (1 ≤ ds) = false := decide_eq_false (by omega)
        go_wp2_with fail
        rw [HW.out]
        have ky4 := cell_regrown y4
        have ke0 := cell_regrown e0
        have ke1 := cell_regrown e1
        have ke2 := cell_regrown e2
        have ke3 := cell_regrown e3
        have ke4 := cell_regrown e4
        have ke5 := cell_regrown e5
        have ke6 := cell_regrown e6
        have ke7 := cell_regrown e7
        have ke8 := cell_regrown e8
        have ke9 := cell_regrown e9
        have ke10 := cell_regrown e10
        have kf0 := cell_regrown f0
        have kf1 := cell_regrown f1
        have kf2 := cell_regrown f2
        have kf3 := cell_regrown f3
        have kf4 := cell_regrown f4
        have kf5 := cell_regrown f5
        have kf6 := cell_regrown f6
        have kf7 := cell_regrown f7
        have kf8 := cell_regrown f8
        have kf9 := cell_regrown f9
        have kf10 := cell_regrown f10
        refine wp_region_quiet_below (by kernel_rfl) (by kernel_rfl) ?_
        repeat (go_big_quiet_step (first | exact cS _ _))
        refine wpQuiet_nil ?_
        intro _ hw'
        obtain ⟨⟨dq, osq⟩, hw''⟩ := hw'
        subst hw''
        clear ky4 ke0 ke1 ke2 ke3 ke4 ke5 ke6 ke7 ke8 ke9 ke10 kf0 kf1 kf2 kf3 kf4 kf5 kf6 kf7 kf8 kf9 kf10 cS
        have hb3 := below_regrown w2 dq osq
        generalize grow (redrawn w2 dq) osq = w3 at *
        replace y4 := cell_later hb3 y4
        replace e0 := cell_later hb3 e0
        replace e1 := cell_later hb3 e1
        replace e2 := cell_later hb3 e2
        replace e3 := cell_later hb3 e3
        replace e4 := cell_later hb3 e4
        replace e5 := cell_later hb3 e5
        replace e6 := cell_later hb3 e6
        replace e7 := cell_later hb3 e7
        replace e8 := cell_later hb3 e8
        replace e9 := cell_later hb3 e9
        replace e10 := cell_later hb3 e10
        replace f0 := cell_later hb3 f0
        replace f1 := cell_later hb3 f1
        replace f2 := cell_later hb3 f2
        replace f3 := cell_later hb3 f3
        replace f4 := cell_later hb3 f4
        replace f5 := cell_later hb3 f5
        replace f6 := cell_later hb3 f6
        replace f7 := cell_later hb3 f7
        replace f8 := cell_later hb3 f8
        replace f9 := cell_later hb3 f9
        replace f10 := cell_later hb3 f10
        have HB3 := Lib.hid (below_then hbw.out (below_then HBX.out hb3))
        clear hb3
        go_wp2_with fail
        go_ret
        exact ⟨false, rfl, rc_not (by have := HLN.out; omega) (ra_bad HX.out (okQ_seq (fun h => by have h1 : 1 ≤ ds := h.1; omega))), below_then HB.out HB3.out⟩
      have q5 : decide (ds < 1) = false := decide_eq_false hq
      have q6 : decide (1 ≤ ds) = true := decide_eq_true (by omega)
      have g3 : 1 ≤ ds := by omega
      clear hq
      rcases Decidable.em (1048576 < ds) with hq | hq
      · skip
        have q7 : decide (1048576 < ds) = true := decide_eq_true (by omega)
        have q8 : decide (ds ≤ 1048576) = false := decide_eq_false (by omega)
        go_wp2_with fail
        rw [HW.out]
        have ky4 := cell_regrown y4
        have ke0 := cell_regrown e0
        have ke1 := cell_regrown e1
        have ke2 := cell_regrown e2
        have ke3 := cell_regrown e3
        have ke4 := cell_regrown e4
        have ke5 := cell_regrown e5
        have ke6 := cell_regrown e6
        have ke7 := cell_regrown e7
        have ke8 := cell_regrown e8
        have ke9 := cell_regrown e9
        have ke10 := cell_regrown e10
        have kf0 := cell_regrown f0
        have kf1 := cell_regrown f1
        have kf2 := cell_regrown f2
        have kf3 := cell_regrown f3
        have kf4 := cell_regrown f4
        have kf5 := cell_regrown f5
        have kf6 := cell_regrown f6
        have kf7 := cell_regrown f7
        have kf8 := cell_regrown f8
        have kf9 := cell_regrown f9
        have kf10 := cell_regrown f10
        refine wp_region_quiet_below (by kernel_rfl) (by kernel_rfl) ?_
        repeat (go_big_quiet_step (first | exact cS _ _))
        refine wpQuiet_nil ?_
        intro _ hw'
        obtain ⟨⟨dq, osq⟩, hw''⟩ := hw'
        subst hw''
        clear ky4 ke0 ke1 ke2 ke3 ke4 ke5 ke6 ke7 ke8 ke9 ke10 kf0 kf1 kf2 kf3 kf4 kf5 kf6 kf7 kf8 kf9 kf10 cS
        have hb3 := below_regrown w2 dq osq
        generalize grow (redrawn w2 dq) osq = w3 at *
        replace y4 := cell_later hb3 y4
        replace e0 := cell_later hb3 e0
        replace e1 := cell_later hb3 e1
        replace e2 := cell_later hb3 e2
        replace e3 := cell_later hb3 e3
        replace e4 := cell_later hb3 e4
        replace e5 := cell_later hb3 e5
        replace e6 := cell_later hb3 e6
        replace e7 := cell_later hb3 e7
        replace e8 := cell_later hb3 e8
        replace e9 := cell_later hb3 e9
        replace e10 := cell_later hb3 e10
        replace f0 := cell_later hb3 f0
        replace f1 := cell_later hb3 f1
        replace f2 := cell_later hb3 f2
        replace f3 := cell_later hb3 f3
        replace f4 := cell_later hb3 f4
        replace f5 := cell_later hb3 f5
        replace f6 := cell_later hb3 f6
        replace f7 := cell_later hb3 f7
        replace f8 := cell_later hb3 f8
        replace f9 := cell_later hb3 f9
        replace f10 := cell_later hb3 f10
        have HB3 := Lib.hid (below_then hbw.out (below_then HBX.out hb3))
        clear hb3
        go_wp2_with fail
        go_ret
        exact ⟨false, rfl, rc_not (by have := HLN.out; omega) (ra_bad HX.out (okQ_seq (fun h => by have h1 : ds ≤ 1048576 := h.2; omega))), below_then HB.out HB3.out⟩
      have q7 : decide (1048576 < ds) = false := decide_eq_false hq
      have q8 : decide (ds ≤ 1048576) = true := decide_eq_true (by omega)
      have g4 : ds ≤ 1048576 := by omega
      clear hq
      have HQ : Hid (1 ≤ dd ∧ dd ≤ 64 ∧ 1 ≤ ds ∧ ds ≤ 1048576) := ⟨g1, g2, g3, g4⟩
      rcases Nat.eq_zero_or_pos k with hk0 | hk0
      · skip
        have hkf : decide (0 < k) = false := decide_eq_false (by omega)
        have hki : ¬ (0 : Int) < (k : Int) := by omega
        have hki2 : decide ((0 : Int) < (k : Int)) = false := decide_eq_false (by omega)
        have HK0 := Lib.hid hk0
        clear hk0
        go_wp2_with fail
        rw [HW.out]
        have ky4 := cell_regrown y4
        have ke0 := cell_regrown e0
        have ke1 := cell_regrown e1
        have ke2 := cell_regrown e2
        have ke3 := cell_regrown e3
        have ke4 := cell_regrown e4
        have ke5 := cell_regrown e5
        have ke6 := cell_regrown e6
        have ke7 := cell_regrown e7
        have ke8 := cell_regrown e8
        have ke9 := cell_regrown e9
        have ke10 := cell_regrown e10
        have kf0 := cell_regrown f0
        have kf1 := cell_regrown f1
        have kf2 := cell_regrown f2
        have kf3 := cell_regrown f3
        have kf4 := cell_regrown f4
        have kf5 := cell_regrown f5
        have kf6 := cell_regrown f6
        have kf7 := cell_regrown f7
        have kf8 := cell_regrown f8
        have kf9 := cell_regrown f9
        have kf10 := cell_regrown f10
        refine wp_region_quiet_below (by kernel_rfl) (by kernel_rfl) ?_
        repeat (go_big_quiet_step (first | exact cS _ _))
        refine wpQuiet_nil ?_
        intro _ hw'
        obtain ⟨⟨dq, osq⟩, hw''⟩ := hw'
        subst hw''
        clear ky4 ke0 ke1 ke2 ke3 ke4 ke5 ke6 ke7 ke8 ke9 ke10 kf0 kf1 kf2 kf3 kf4 kf5 kf6 kf7 kf8 kf9 kf10 cS
        have hb3 := below_regrown w2 dq osq
        generalize grow (redrawn w2 dq) osq = w3 at *
        replace y4 := cell_later hb3 y4
        replace e0 := cell_later hb3 e0
        replace e1 := cell_later hb3 e1
        replace e2 := cell_later hb3 e2
        replace e3 := cell_later hb3 e3
        replace e4 := cell_later hb3 e4
        replace e5 := cell_later hb3 e5
        replace e6 := cell_later hb3 e6
        replace e7 := cell_later hb3 e7
        replace e8 := cell_later hb3 e8
        replace e9 := cell_later hb3 e9
        replace e10 := cell_later hb3 e10
        replace f0 := cell_later hb3 f0
        replace f1 := cell_later hb3 f1
        replace f2 := cell_later hb3 f2
        replace f3 := cell_later hb3 f3
        replace f4 := cell_later hb3 f4
        replace f5 := cell_later hb3 f5
        replace f6 := cell_later hb3 f6
        replace f7 := cell_later hb3 f7
        replace f8 := cell_later hb3 f8
        replace f9 := cell_later hb3 f9
        replace f10 := cell_later hb3 f10
        have HB3 := Lib.hid (below_then hbw.out (below_then HBX.out hb3))
        clear hb3
        go_wp2_with fail
        go_roundw
        case rel => exact ⟨k + 1, by omega, by go_num, ra_next hall.out (by have h0 := HK0.out; have hx0 := HX.out; subst h0; exact ra_yes0 hx0 (okQ_bare HR.out (by have := HQ.out.1; exact this) HQ.out.2.1 HQ.out.2.2.1 HQ.out.2.2.2)), HB3.out⟩
        case measure => simp [intOf]; omega
      obtain ⟨j, hj⟩ : ∃ j, k = j + 1 := ⟨k - 1, by omega⟩
      have hkf : decide (0 < k) = true := decide_eq_true (by omega)
      have hki : (0 : Int) < (k : Int) := by omega
      have hki2 : decide ((0 : Int) < (k : Int)) = true := decide_eq_true (by omega)
      have hjl : j < l.length := by omega
      obtain ⟨y, hy⟩ : ∃ y, l[j] = y := ⟨_, rfl⟩
      have hgy : l[j]? = some y := by rw [List.getElem?_eq_getElem hjl, hy]
      obtain ⟨b2, o2, x2, d0, d1, d2, d3, d4, d5, d6, d7, d8, d9, d10, _⟩ := rd_prt (HA.out.later (below_then HB.out (below_then hbw.out HBX.out))) rfl j hjl hy
      rw [HLN.out] at x2
      have HYP := Lib.hid hgy
      obtain ⟨⟨yk, yn, ys⟩, ⟨yd, yq⟩, yat, ytm, ⟨yfd, yfq⟩, yaa, yg⟩ := y
      have HY := HYP
      have hq1 : (k : Int) - 1 = (j : Int) := by omega
      have hq2 : (0 : Int) ≤ (j : Int) := by omega
      have hq3 : (j : Int) < (n : Int) := by omega
      have hwr : IntKind.i64.wrap (j : Int) = (j : Int) := by rw [IntKind.wrap_i64]; omega
      have HJ := Lib.hid hj
      clear hj hy hgy hk0 HYP
      skip
      have cO := fun {k n : Int} {s : ByteArray} {d q a t fd fq aa : Int} {g : Bool} => of_c k n s d q a t fd fq aa g w2
      have cB : ∀ d os, Calls Try.prog 29 #[.agg #[.int .i64 yn, .int .i64 yd, .int .i64 yq], .agg #[.int .i64 vn, .int .i64 dd, .int .i64 ds]] (grow (redrawn w2 d) os) fun e w'' => e = .returned (.int .i64 (cmpPl yn ⟨yd, yq⟩ vn ⟨dd, ds⟩)) ∧ ∃ p : Regrown, w'' = grow (redrawn w2 p.d) p.os := fun d os => Calls.regrown_of ((ahead_any yn vn ⟨yd, yq⟩ ⟨dd, ds⟩ _))
      have hnn := cmpQ_nonneg ⟨⟨yk, yn, ys⟩, ⟨yd, yq⟩, yat, ytm, ⟨yfd, yfq⟩, yaa, yg⟩ ⟨⟨1, vn, vs⟩, ⟨dd, ds⟩, 0, 0, ⟨0, 0⟩, 0, false⟩
      obtain ⟨cr, hcr⟩ : ∃ cr, cmpPl yn ⟨yd, yq⟩ vn ⟨dd, ds⟩ = cr := ⟨_, rfl⟩
      rw [show cmpQ ⟨⟨yk, yn, ys⟩, ⟨yd, yq⟩, yat, ytm, ⟨yfd, yfq⟩, yaa, yg⟩ ⟨⟨1, vn, vs⟩, ⟨dd, ds⟩, 0, 0, ⟨0, 0⟩, 0, false⟩ = cr from hcr] at hnn
      rw [hcr] at cB
      clear hcr
      cases hl : ltQ ⟨⟨yk, yn, ys⟩, ⟨yd, yq⟩, yat, ytm, ⟨yfd, yfq⟩, yaa, yg⟩ ⟨⟨1, vn, vs⟩, ⟨dd, ds⟩, 0, 0, ⟨0, 0⟩, 0, false⟩
      all_goals
        rw [hl] at hnn
        have HL := Lib.hid hl
        clear hl
      · have hc0 : 0 ≤ cr := by simpa using hnn
        go_wp2_with fail
        rw [HW.out]
        have ky4 := cell_regrown y4
        have ke0 := cell_regrown e0
        have ke1 := cell_regrown e1
        have ke2 := cell_regrown e2
        have ke3 := cell_regrown e3
        have ke4 := cell_regrown e4
        have ke5 := cell_regrown e5
        have ke6 := cell_regrown e6
        have ke7 := cell_regrown e7
        have ke8 := cell_regrown e8
        have ke9 := cell_regrown e9
        have ke10 := cell_regrown e10
        have kf0 := cell_regrown f0
        have kf1 := cell_regrown f1
        have kf2 := cell_regrown f2
        have kf3 := cell_regrown f3
        have kf4 := cell_regrown f4
        have kf5 := cell_regrown f5
        have kf6 := cell_regrown f6
        have kf7 := cell_regrown f7
        have kf8 := cell_regrown f8
        have kf9 := cell_regrown f9
        have kf10 := cell_regrown f10
        have kd0 := cell_regrown d0
        have kd1 := cell_regrown d1
        have kd2 := cell_regrown d2
        have kd3 := cell_regrown d3
        have kd4 := cell_regrown d4
        have kd5 := cell_regrown d5
        have kd6 := cell_regrown d6
        have kd7 := cell_regrown d7
        have kd8 := cell_regrown d8
        have kd9 := cell_regrown d9
        have kd10 := cell_regrown d10
        refine wp_region_quiet_below (by kernel_rfl) (by kernel_rfl) ?_
        repeat (go_big_quiet_step (first | exact cS _ _ | exact cO _ _ | exact cB _ _))
        refine wpQuiet_nil ?_
        intro _ hw'
        obtain ⟨⟨dq, osq⟩, hw''⟩ := hw'
        subst hw''
        clear ky4 ke0 ke1 ke2 ke3 ke4 ke5 ke6 ke7 ke8 ke9 ke10 kf0 kf1 kf2 kf3 kf4 kf5 kf6 kf7 kf8 kf9 kf10 kd0 kd1 kd2 kd3 kd4 kd5 kd6 kd7 kd8 kd9 kd10 cS cO cB
        have hb3 := below_regrown w2 dq osq
        generalize grow (redrawn w2 dq) osq = w3 at *
        replace y4 := cell_later hb3 y4
        replace e0 := cell_later hb3 e0
        replace e1 := cell_later hb3 e1
        replace e2 := cell_later hb3 e2
        replace e3 := cell_later hb3 e3
        replace e4 := cell_later hb3 e4
        replace e5 := cell_later hb3 e5
        replace e6 := cell_later hb3 e6
        replace e7 := cell_later hb3 e7
        replace e8 := cell_later hb3 e8
        replace e9 := cell_later hb3 e9
        replace e10 := cell_later hb3 e10
        replace f0 := cell_later hb3 f0
        replace f1 := cell_later hb3 f1
        replace f2 := cell_later hb3 f2
        replace f3 := cell_later hb3 f3
        replace f4 := cell_later hb3 f4
        replace f5 := cell_later hb3 f5
        replace f6 := cell_later hb3 f6
        replace f7 := cell_later hb3 f7
        replace f8 := cell_later hb3 f8
        replace f9 := cell_later hb3 f9
        replace f10 := cell_later hb3 f10
        replace d0 := cell_later hb3 d0
        replace d1 := cell_later hb3 d1
        replace d2 := cell_later hb3 d2
        replace d3 := cell_later hb3 d3
        replace d4 := cell_later hb3 d4
        replace d5 := cell_later hb3 d5
        replace d6 := cell_later hb3 d6
        replace d7 := cell_later hb3 d7
        replace d8 := cell_later hb3 d8
        replace d9 := cell_later hb3 d9
        replace d10 := cell_later hb3 d10
        have HB3 := Lib.hid (below_then hbw.out (below_then HBX.out hb3))
        clear hb3
        go_wp2_with fail
        go_ret
        exact ⟨false, rfl, rc_not (by have := HLN.out; omega) (ra_less HJ.out HX.out HY.out HL.out), below_then HB.out HB3.out⟩
      · have hc0 : ¬ 0 ≤ cr := by simpa using hnn
        have hc1 : cr < 0 := by omega
        go_wp2_with fail
        rw [HW.out]
        have ky4 := cell_regrown y4
        have ke0 := cell_regrown e0
        have ke1 := cell_regrown e1
        have ke2 := cell_regrown e2
        have ke3 := cell_regrown e3
        have ke4 := cell_regrown e4
        have ke5 := cell_regrown e5
        have ke6 := cell_regrown e6
        have ke7 := cell_regrown e7
        have ke8 := cell_regrown e8
        have ke9 := cell_regrown e9
        have ke10 := cell_regrown e10
        have kf0 := cell_regrown f0
        have kf1 := cell_regrown f1
        have kf2 := cell_regrown f2
        have kf3 := cell_regrown f3
        have kf4 := cell_regrown f4
        have kf5 := cell_regrown f5
        have kf6 := cell_regrown f6
        have kf7 := cell_regrown f7
        have kf8 := cell_regrown f8
        have kf9 := cell_regrown f9
        have kf10 := cell_regrown f10
        have kd0 := cell_regrown d0
        have kd1 := cell_regrown d1
        have kd2 := cell_regrown d2
        have kd3 := cell_regrown d3
        have kd4 := cell_regrown d4
        have kd5 := cell_regrown d5
        have kd6 := cell_regrown d6
        have kd7 := cell_regrown d7
        have kd8 := cell_regrown d8
        have kd9 := cell_regrown d9
        have kd10 := cell_regrown d10
        refine wp_region_quiet_below (by kernel_rfl) (by kernel_rfl) ?_
        repeat (go_big_quiet_step (first | exact cS _ _ | exact cO _ _ | exact cB _ _))
        refine wpQuiet_nil ?_
        intro _ hw'
        obtain ⟨⟨dq, osq⟩, hw''⟩ := hw'
        subst hw''
        clear ky4 ke0 ke1 ke2 ke3 ke4 ke5 ke6 ke7 ke8 ke9 ke10 kf0 kf1 kf2 kf3 kf4 kf5 kf6 kf7 kf8 kf9 kf10 kd0 kd1 kd2 kd3 kd4 kd5 kd6 kd7 kd8 kd9 kd10 cS cO cB
        have hb3 := below_regrown w2 dq osq
        generalize grow (redrawn w2 dq) osq = w3 at *
        replace y4 := cell_later hb3 y4
        replace e0 := cell_later hb3 e0
        replace e1 := cell_later hb3 e1
        replace e2 := cell_later hb3 e2
        replace e3 := cell_later hb3 e3
        replace e4 := cell_later hb3 e4
        replace e5 := cell_later hb3 e5
        replace e6 := cell_later hb3 e6
        replace e7 := cell_later hb3 e7
        replace e8 := cell_later hb3 e8
        replace e9 := cell_later hb3 e9
        replace e10 := cell_later hb3 e10
        replace f0 := cell_later hb3 f0
        replace f1 := cell_later hb3 f1
        replace f2 := cell_later hb3 f2
        replace f3 := cell_later hb3 f3
        replace f4 := cell_later hb3 f4
        replace f5 := cell_later hb3 f5
        replace f6 := cell_later hb3 f6
        replace f7 := cell_later hb3 f7
        replace f8 := cell_later hb3 f8
        replace f9 := cell_later hb3 f9
        replace f10 := cell_later hb3 f10
        replace d0 := cell_later hb3 d0
        replace d1 := cell_later hb3 d1
        replace d2 := cell_later hb3 d2
        replace d3 := cell_later hb3 d3
        replace d4 := cell_later hb3 d4
        replace d5 := cell_later hb3 d5
        replace d6 := cell_later hb3 d6
        replace d7 := cell_later hb3 d7
        replace d8 := cell_later hb3 d8
        replace d9 := cell_later hb3 d9
        replace d10 := cell_later hb3 d10
        have HB3 := Lib.hid (below_then hbw.out (below_then HBX.out hb3))
        clear hb3
        go_wp2_with fail
        go_roundw
        case rel => exact ⟨k + 1, by omega, by go_num, ra_next hall.out (ra_yes HJ.out HX.out HY.out (okQ_bare HR.out (by have := HQ.out.1; exact this) HQ.out.2.1 HQ.out.2.2.1 HQ.out.2.2.2) HL.out), HB3.out⟩
        case measure => simp [intOf]; omega
    · have hkn : k = n := by omega
      subst hkn
      have hr := (rc_yes fun j (hj : j < l.length) => hall.out j (by have := HLN.out; omega)).1 rfl
      have HR := Lib.hid hr
      clear hr
      go_wp2_with fail
      go_ret
      exact ⟨true, rfl, ⟨fun _ => HR.out, fun _ => rfl⟩, below_then HB.out hbw.out⟩
end Go.Proofs.Ytnpciogpegmejaa
