/-
  Layer 9 (bag): some; a loop over it that collects. (printed by tools/gen_gi.py)
-/
import Derived.Test.YtnpciogpegmejaaGA
import Derived.RangeFuncNested
import Derived.RangeFuncBound
import Derived.RangeFuncCalls
import Derived.RangeFuncLeaves
import Derived.Shelf.Abstract
import Derived.OwnWalkIn
import Derived.TacticsInMore
import Derived.LoopNIn
import Derived.LoopIn
import Derived.Maps.AppendAt
namespace Go.Proofs.Ytnpciogpegmejaa
open Go.RowKit Go.Sort Go.Shelf
attribute [local go_sem] Oper.semAt_some

/-- What a round keeps: whatever lies below a number, and one box. -/
def KpS (n0 q : Nat) (o : Obj) (W W' : World) : Prop := Below n0 W W' ∧ (W.heap[q]? = some o → W'.heap[q]? = some o)
theorem KpS.t {n0 q : Nat} {o : Obj} {A B C : World} (h : KpS n0 q o A B) (k : KpS n0 q o B C) : KpS n0 q o A C := ⟨h.1.trans k.1, fun e => k.2 (h.2 e)⟩
theorem KpS.b {n0 q : Nat} {ob : Obj} {w : World} (hn : n0 ≤ w.heap.size) (hq : q < w.heap.size) (W : World) (l : Nat) (o o' : Obj) (hl : w.heap.size ≤ l) (h : W.heap[l]? = some o) (h1 : o.isCells = false) (h2 : o.isWalk = false) : KpS n0 q ob W (W.putObj l o') :=
  ⟨belowK_b hn W l o o' hl h h1 h2, fun e => (World.putObj_heap_other (by omega)).trans e⟩

theorem some_any (a : Option Addr) (n c g : Nat) (cb : Array Value) (w : World) : Calls Try.prog 33 #[.slice a n c, .func (.func g) #[] cb] w fun e w' =>
    e = .returned (.func (.func 56) #[] #[.pointer (some ⟨w.heap.size, 0, none⟩), .pointer (some ⟨w.heap.size + 1, 0, none⟩)]) ∧ w' = (w.alloc (.cells #[.slice a n c] 24)).alloc (.cells #[.func (.func g) #[] cb] 69) := by
  go_enter Try.func33, Try.ntmps33
  go_wp2
  go_ret
  exact ⟨rfl, rfl⟩

set_option maxRecDepth 100000 in
set_option maxHeartbeats 4000000 in
theorem some1_stops {g : Nat} {cb : Array Value} {p : Prt → Bool} (m : Nat) (hm : 2 ≤ m) (w0 : World) (C : TestP w0 g cb p) (v : Value) (l : List Prt) (q1 q2 : Nat) (w : World) (hb0 : Below w0.heap.size w0 w) (h1 : w.cell? ⟨q1, 0, none⟩ = some v) (h2 : w.heap[q2]? = some (.cells #[.func (.func g) #[] cb] 69 (0, 0))) (ha : PRd w0 v l) (hl : l.length ≤ 1000000) :
    SeqStopsK Fence.wide m Try.prog 56 #[.pointer (some ⟨q1, 0, none⟩), .pointer (some ⟨q2, 0, none⟩)] (fun x : Prt => #[x.agg]) (KpS w0.heap.size q2 (.cells #[.func (.func g) #[] cb] 69 (0, 0))) (fun ys => ys = l.filter p) (fun _ => True) l.length w := by
  intro lY J Jx W hW hJ hJx hY h0
  obtain ⟨ao, c, rfl, hnc, hcm, -, -⟩ := id ha
  obtain ⟨n, hln⟩ : ∃ n, l.length = n := ⟨_, rfl⟩
  have hq1 := World.block_lt_of_cell? _ _ h1
  have hq2 := (Array.getElem?_eq_some_iff.1 h2).1
  have k1 := cell_later hW h1
  have k2 : W.heap[q2]? = _ := (hW.block q2 hq2).trans h2
  have HA := Lib.hid ha
  have HLN := Lib.hid hln
  have heg := C.eg
  have HC := Lib.hid C.call
  have HB0 : Hid (Below w0.heap.size w0 W) := hb0.trans (hW.mono hb0.size)
  have HK2 := Lib.hid k2
  have HJA := Lib.hid hJ
  have HY := Lib.hid hY
  have HJ0 := Lib.hid h0
  rw [hln] at hl hnc k1
  unfold maxLen at hcm
  clear h1 h2 ha hln C hb0 hW hJ hJx hY h0 k2
  refine callsIn_of_wp Try.func56 rfl trivial ?_ rfl
  simp only [Try.ntmps56, List.size_toArray, List.length_cons, List.length_nil, Nat.reduceAdd, Nat.reduceSub, Array.replicate_succ, Array.replicate_zero, List.push_toArray, List.append_toArray, List.nil_append, List.cons_append]
  gi_wp2_with fail
  clear k1
  gi_loopw [8] (fun vi wr => ∃ k : Nat, k ≤ n ∧ vi = .int .i64 k ∧ Hid (J ((l.take k).filter p) wr) ∧ Hid (Below w0.heap.size w0 wr) ∧ Hid (wr.heap[q2]? = some (.cells #[.func (.func g) #[] cb] 69 (0, 0)))) (fun vi _ => n - (intOf vi).toNat)
  case atStart => exact ⟨0, Nat.zero_le _, rfl, HJ0.out, HB0.out, HK2.out⟩
  case round =>
    obtain ⟨k, hk, rfl, hj, hbw, hk2⟩ := hrel
    rename World => wr
    have HBW := Lib.hid hbw.out
    by_cases hlt : k < n
    · have hkl : k < l.length := by have := HLN.out; omega
      obtain ⟨x, hx⟩ : ∃ x, l[k] = x := ⟨_, rfl⟩
      obtain ⟨b1, o1, x1, c0, c1, c2, c3, c4, c5, c6, c7, c8, c9, c10, _⟩ := rd_prt (HA.out.later hbw.out) rfl k hkl hx
      rw [HLN.out] at x1
      have hnx : (l.take (k + 1)).filter p = (l.take k).filter p ++ if p x then [x] else [] := by
        rw [List.take_succ_eq_append_getElem hkl, List.filter_append, hx]
        cases hp : p x <;> simp [hp]
      have hbx := below_alloc wr (.cells #[.int .i64 x.v.k, .int .i64 x.v.n, .string x.v.s, .int .i64 x.d.dev, .int .i64 x.d.seq, .int .i64 x.at_, .int .i64 x.tm, .int .i64 x.aft.dev, .int .i64 x.aft.seq, .int .i64 x.aat, .bool x.gone] 43)
      have hcall := HC.out x _ (below_then hbw.out hbx)
      have bx : Bx (wr.alloc (.cells #[.int .i64 x.v.k, .int .i64 x.v.n, .string x.v.s, .int .i64 x.d.dev, .int .i64 x.d.seq, .int .i64 x.at_, .int .i64 x.tm, .int .i64 x.aft.dev, .int .i64 x.aft.seq, .int .i64 x.aat, .bool x.gone] 43)) wr.heap.size #[.int .i64 x.v.k, .int .i64 x.v.n, .string x.v.s, .int .i64 x.d.dev, .int .i64 x.d.seq, .int .i64 x.at_, .int .i64 x.tm, .int .i64 x.aft.dev, .int .i64 x.aft.seq, .int .i64 x.aat, .bool x.gone] 43 := bx_new rfl
      have b2 : Bx (wr.alloc (.cells #[.int .i64 x.v.k, .int .i64 x.v.n, .string x.v.s, .int .i64 x.d.dev, .int .i64 x.d.seq, .int .i64 x.at_, .int .i64 x.tm, .int .i64 x.aft.dev, .int .i64 x.aft.seq, .int .i64 x.aat, .bool x.gone] 43)) q2 #[.func (.func g) #[] cb] 69 := bx_later hbx hk2.out
      have f0 := cell_of_box b2 0 rfl
      have e0 := cell_of_box bx 0 rfl
      have e1 := cell_of_box bx 1 rfl
      have e2 := cell_of_box bx 2 rfl
      have e3 := cell_of_box bx 3 rfl
      have e4 := cell_of_box bx 4 rfl
      have e5 := cell_of_box bx 5 rfl
      have e6 := cell_of_box bx 6 rfl
      have e7 := cell_of_box bx 7 rfl
      have e8 := cell_of_box bx 8 rfl
      have e9 := cell_of_box bx 9 rfl
      have e10 := cell_of_box bx 10 rfl
      have hJ1 : J ((l.take k).filter p) (wr.alloc (.cells #[.int .i64 x.v.k, .int .i64 x.v.n, .string x.v.s, .int .i64 x.d.dev, .int .i64 x.d.seq, .int .i64 x.at_, .int .i64 x.tm, .int .i64 x.aft.dev, .int .i64 x.aft.seq, .int .i64 x.aat, .bool x.gone] 43)) := HJA.out _ _ _ none hj.out (grown_of_below hbx) (fun r e => nomatch e)
      have hlen : ((l.take k).filter p).length < l.length := by
        have h1 := List.length_filter_le p (l.take k)
        rw [List.length_take] at h1
        omega
      have HJ1 := Lib.hid hJ1
      have HBX := Lib.hid hbx
      have HB2 := Lib.hid b2
      have HLEN := Lib.hid hlen
      clear hx hbx bx b2 hJ1 hlen
      cases hp : p x
      all_goals
        rw [hp] at hcall hnx
        have HCL := Lib.hid hcall
        have HNX := Lib.hid hnx
        clear hcall hnx hp
      · gi_wp2_with fail
        refine ⟨trivial, fun _ => by omega, ?_⟩
        refine (callsIn_wide.2 HCL.out).mono ?_
        rintro e w2 ⟨rfl, hb2⟩
        have HJ2 : Hid (J ((l.take (k + 1)).filter p) w2) := by
          rw [HNX.out]
          simp only [Bool.false_eq_true, if_false, List.append_nil]
          exact HJA.out _ _ _ none HJ1.out (grown_of_below hb2) (fun r e => nomatch e)
        have HB3 := Lib.hid (below_then HBW.out (below_then HBX.out hb2))
        have HB4 := Lib.hid (bx_later hb2 HB2.out)
        clear hb2
        gi_wp2_with fail
        refine ⟨fun _ h => (by cases h), ?_⟩
        gi_wp2_with fail
        go_roundw
        case rel => exact ⟨k + 1, by omega, by go_num, HJ2.out, HB3.out, HB4.out⟩
        case measure => simp [intOf]; omega
      · gi_wp2_with fail
        refine ⟨trivial, fun _ => by omega, ?_⟩
        refine (callsIn_wide.2 HCL.out).mono ?_
        rintro e w2 ⟨rfl, hb2⟩
        replace e0 := cell_later hb2 e0
        replace e1 := cell_later hb2 e1
        replace e2 := cell_later hb2 e2
        replace e3 := cell_later hb2 e3
        replace e4 := cell_later hb2 e4
        replace e5 := cell_later hb2 e5
        replace e6 := cell_later hb2 e6
        replace e7 := cell_later hb2 e7
        replace e8 := cell_later hb2 e8
        replace e9 := cell_later hb2 e9
        replace e10 := cell_later hb2 e10
        have hJ2 : J ((l.take k).filter p) w2 := HJA.out _ _ _ none HJ1.out (grown_of_below hb2) (fun r e => nomatch e)
        have HB3 := Lib.hid (below_then HBW.out (below_then HBX.out hb2))
        have HB4 := Lib.hid (bx_later hb2 HB2.out)
        obtain ⟨fn, tmps, assign, body, hy, hR⟩ := HY.out _ x w2 hJ2 HLEN.out
        try dsimp only at hy
        clear hb2 hJ2
        gi_wp2_with fail
        refine ⟨fun _ => by omega, ?_⟩
        refine hR.mono ?_
        rintro e W3 (⟨rfl, hJ3, hk3⟩ | ⟨rfl, hJx3⟩)
        · have HJ3 : Hid (J ((l.take (k + 1)).filter p) W3) := by rw [HNX.out]; exact hJ3
          have HB5 : Hid (Below w0.heap.size w0 W3) := HB3.out.trans hk3.1
          have HB6 : Hid (W3.heap[q2]? = some (.cells #[.func (.func g) #[] cb] 69 (0, 0))) := hk3.2 HB4.out
          clear hJ3 hk3
          gi_wp2_with fail
          go_roundw
          case rel => exact ⟨k + 1, by omega, by go_num, HJ3.out, HB5.out, HB6.out⟩
          case measure => simp [intOf]; omega
        · gi_wp2_with fail
          refine bodyPost_ret (results_none rfl _ _ _) rfl ?_
          exact ⟨⟨_, rfl⟩, .inr ⟨_, trivial, hJx3⟩⟩
    · have hkn : k = n := by omega
      subst hkn
      have hj2 := hj.out
      rw [List.take_of_length_le (by have := HLN.out; omega)] at hj2
      have HJ2 := Lib.hid hj2
      clear hj2
      gi_wp2_with fail
      go_end0
      exact ⟨⟨_, rfl⟩, .inl ⟨_, rfl, HJ2.out⟩⟩
end Go.Proofs.Ytnpciogpegmejaa
