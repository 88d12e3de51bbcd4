/-
  Layer 20 (past): texts joined by tools/join.py: XYD, XYQ, XYP, XYI, XYW, XYL.
-/
import Derived.Test.YtnolbabpkhdpmaaGreatN1
import Derived.RangeFuncNested
import Derived.RangeFuncBound
import Derived.RangeFuncCalls
import Derived.RangeFuncLeaves
import Derived.Shelf.Abstract
import Derived.OwnWalkIn
import Derived.TacticsInMore
import Derived.LoopNIn
import Derived.LoopIn
import Derived.Maps.AppendAt
import Derived.Scope
import Derived.Test.YtnolbabpkhdpmaaGreatFL
import Derived.OrdersIn
/- Layer 20 (past): slices.DeleteFunc over transactions. (printed by tools/gen_yd.py) -/
namespace Go.Proofs.YtnolbabpkhdpmaaGreat
open Go.RowKit Go.Sort Go.BigFrame
attribute [local irreducible] FlowW

section
variable {α : Type} [Inhabited α] {enc : α → List Value} {w0 : World} {blk off n : Nat} {l0 : List α}
theorem SB.cellT {P S : List α} {x : α} {W : World} (h : SB enc 11 w0 blk off (P ++ x :: S) W) (R : Rw enc 11 w0 blk off n l0) (hl : (P ++ x :: S).length = n) {i : Nat} (hi : i = P.length) {u0 u1 u2 u3 u4 u5 u6 u7 u8 u9 u10 : Value} (hv : enc x = [u0, u1, u2, u3, u4, u5, u6, u7, u8, u9, u10]) :
    W.cell? ⟨blk, off + i * 11, none⟩ = some u0 ∧ W.cell? ⟨blk, off + i * 11 + 1, none⟩ = some u1 ∧ W.cell? ⟨blk, off + i * 11 + 2, none⟩ = some u2 ∧ W.cell? ⟨blk, off + i * 11 + 3, none⟩ = some u3 ∧ W.cell? ⟨blk, off + i * 11 + 4, none⟩ = some u4 ∧ W.cell? ⟨blk, off + i * 11 + 5, none⟩ = some u5 ∧ W.cell? ⟨blk, off + i * 11 + 6, none⟩ = some u6 ∧ W.cell? ⟨blk, off + i * 11 + 7, none⟩ = some u7 ∧ W.cell? ⟨blk, off + i * 11 + 8, none⟩ = some u8 ∧ W.cell? ⟨blk, off + i * 11 + 9, none⟩ = some u9 ∧ W.cell? ⟨blk, off + i * 11 + 10, none⟩ = some u10 ∧ W.frozen? ⟨blk, off + i * 11, none⟩ = false ∧ W.frozen? ⟨blk, off + i * 11 + 1, none⟩ = false ∧ W.frozen? ⟨blk, off + i * 11 + 2, none⟩ = false ∧ W.frozen? ⟨blk, off + i * 11 + 3, none⟩ = false ∧ W.frozen? ⟨blk, off + i * 11 + 4, none⟩ = false ∧ W.frozen? ⟨blk, off + i * 11 + 5, none⟩ = false ∧ W.frozen? ⟨blk, off + i * 11 + 6, none⟩ = false ∧ W.frozen? ⟨blk, off + i * 11 + 7, none⟩ = false ∧ W.frozen? ⟨blk, off + i * 11 + 8, none⟩ = false ∧ W.frozen? ⟨blk, off + i * 11 + 9, none⟩ = false ∧ W.frozen? ⟨blk, off + i * 11 + 10, none⟩ = false := by
  have hx : (P ++ x :: S).toArray[i]! = x := get_mid (d := (P ++ x :: S).toArray) rfl hi
  have hil : i < (P ++ x :: S).toArray.size := by simp; omega
  have c0 := HoldsK.cell (h.holds R hl) (i := i) (c := 0) hil (by decide)
  have c1 := HoldsK.cell (h.holds R hl) (i := i) (c := 1) hil (by decide)
  have c2 := HoldsK.cell (h.holds R hl) (i := i) (c := 2) hil (by decide)
  have c3 := HoldsK.cell (h.holds R hl) (i := i) (c := 3) hil (by decide)
  have c4 := HoldsK.cell (h.holds R hl) (i := i) (c := 4) hil (by decide)
  have c5 := HoldsK.cell (h.holds R hl) (i := i) (c := 5) hil (by decide)
  have c6 := HoldsK.cell (h.holds R hl) (i := i) (c := 6) hil (by decide)
  have c7 := HoldsK.cell (h.holds R hl) (i := i) (c := 7) hil (by decide)
  have c8 := HoldsK.cell (h.holds R hl) (i := i) (c := 8) hil (by decide)
  have c9 := HoldsK.cell (h.holds R hl) (i := i) (c := 9) hil (by decide)
  have c10 := HoldsK.cell (h.holds R hl) (i := i) (c := 10) hil (by decide)
  rw [hx, hv] at c0 c1 c2 c3 c4 c5 c6 c7 c8 c9 c10
  exact ⟨c0.1, c1.1, c2.1, c3.1, c4.1, c5.1, c6.1, c7.1, c8.1, c9.1, c10.1, c0.2, c1.2, c2.2, c3.2, c4.2, c5.2, c6.2, c7.2, c8.2, c9.2, c10.2⟩
abbrev setT (W : World) (b o : Nat) (x0 x1 x2 x3 x4 x5 x6 x7 x8 x9 x10 : Value) : World := (((((((((((W.setCell ⟨b, o, none⟩ x0).setCell ⟨b, o + 1, none⟩ x1).setCell ⟨b, o + 1 + 1, none⟩ x2).setCell ⟨b, o + 1 + 1 + 1, none⟩ x3).setCell ⟨b, o + 1 + 1 + 1 + 1, none⟩ x4).setCell ⟨b, o + 1 + 1 + 1 + 1 + 1, none⟩ x5).setCell ⟨b, o + 1 + 1 + 1 + 1 + 1 + 1, none⟩ x6).setCell ⟨b, o + 1 + 1 + 1 + 1 + 1 + 1 + 1, none⟩ x7).setCell ⟨b, o + 1 + 1 + 1 + 1 + 1 + 1 + 1 + 1, none⟩ x8).setCell ⟨b, o + 1 + 1 + 1 + 1 + 1 + 1 + 1 + 1 + 1, none⟩ x9).setCell ⟨b, o + 1 + 1 + 1 + 1 + 1 + 1 + 1 + 1 + 1 + 1, none⟩ x10)
theorem SB.storedT {P S : List α} {x y : α} {W : World} (h : SB enc 11 w0 blk off (P ++ x :: S) W) (R : Rw enc 11 w0 blk off n l0) {i : Nat} (hi : i = P.length) {u0 u1 u2 u3 u4 u5 u6 u7 u8 u9 u10 : Value} (hv : enc y = [u0, u1, u2, u3, u4, u5, u6, u7, u8, u9, u10]) :
    SB enc 11 w0 blk off (P ++ y :: S) (setT W blk (off + i * 11) u0 u1 u2 u3 u4 u5 u6 u7 u8 u9 u10) := by
  have := SB.laid (P := P) (X := [x]) (Y := [y]) (S := S) h R rfl hi
  rw [List.flatMap_cons, List.flatMap_nil, List.append_nil, hv] at this
  exact this
theorem holds_ownK {k : Nat} (hk : ∀ x, (enc x).length = k) {w : World} {B g cap : Nat} {l : List α} {T : TypeId} (h : w.ownsRow B T k (.slice (some ⟨g, 0, none⟩) l.length cap) l.length (l.flatMap enc)) : HoldsK enc k w g 0 l.toArray := by
  intro j hj
  have hj' : j < l.length * k := by simpa using hj
  have hc := h.cellAt j hj'
  have hf := h.frozenAt j
  refine ⟨?_, by rw [Nat.zero_add]; exact hf⟩
  have h2 : (flatK enc k l.toArray).toList[j]? = (l.flatMap enc)[j]? := by rw [flatK_list hk]
  rw [Array.getElem?_toList, Array.getElem?_eq_getElem hj] at h2
  rw [Nat.zero_add, hc, ← h2, getElem!_pos _ j hj]
  rfl
end
theorem run_lo_at {P : Program} {t e : TypeId} {size bytes : Nat} {z : Value} (T : El P t e size bytes z) (blk off n cap i : Nat) (hi : i ≤ n) (_ : n ≤ cap) (hlt : i < cap) (W : World) :
    (Instr.sliceAt t (.slice (some ⟨blk, off, none⟩) n cap) (some (.int .i64 (i : Int))) none none).run P W = .ok (.slice (some ⟨blk, off + i * size, none⟩) (n - i) (cap - i)) W := by
  obtain ⟨y, hy, hz0, hz1, hz2⟩ := T.info
  have ht : P.underlying t = some (.slice (P.elem t)) := by rw [T.elem]; exact T.ty
  rw [run_sliceAt_slice W t _ _ _ _ ht, run_slice_l W t _ n cap ht .i64 (i : Int) (by omega) (by omega)]
  simp only [T.elem, sizeOf, Sem.run_bind, typeInfo, Int.toNat_natCast]
  have h0 : ¬ cap = i := by omega
  simp [hy, hz1, Result.andThen, sliced, Addr.add]
  rw [if_neg h0]
  by_cases h : i * size = 0
  · rw [if_pos h, h, Nat.add_zero]
  · rw [if_neg h]

/-- What a test of transactions does, wherever it is called. -/
structure TestT (wb : World) (g : Nat) (cb : Array Value) (p : TxS → Bool) : Prop where
  eg : ∀ args w, (callFunc g args).run Tryz.prog w = .ok (.enter g args) w
  call : ∀ (x : TxS) (W : World), Below wb.heap.size wb W → Calls Tryz.prog g (#[.agg #[.int .i64 x.dev, .int .i64 x.seq, .int .i64 x.time, .slice x.ad x.nd x.cd, .slice x.ao x.no x.co, .slice x.ae x.ne x.ce, .bool x.fm, .slice x.ah x.nh x.ch, .int .i64 x.note, .int .i64 x.whom, .int .i64 x.upto]] ++ cb) W fun e w' => e = .returned (.bool (p x)) ∧ Below W.heap.size W w'
def IdxT (w : World) (p : TxS → Bool) (l : List TxS) (e : Ending) (w' : World) : Prop :=
  ((e = .returned (.int .i64 (-1)) ∧ ∀ x ∈ l, p x = false) ∨ ∃ k : Nat, ∃ hk : k < l.length, e = .returned (.int .i64 k) ∧ p l[k] = true ∧ ∀ x ∈ l.take k, p x = false) ∧ Below w.heap.size w w'
def keepT (p : TxS → Bool) (l : List TxS) : List TxS := l.filter fun x => !p x
theorem keepT_next (p : TxS → Bool) {l : List TxS} {k : Nat} (hk : k < l.length) {x : TxS} (hx : l[k] = x) : keepT p (l.take (k + 1)) = keepT p (l.take k) ++ if p x then [] else [x] := by
  unfold keepT
  rw [List.take_succ_eq_append_getElem hk, List.filter_append, hx]
  cases hp : p x <;> simp [hp]
theorem keepT_all {p : TxS → Bool} {l : List TxS} (h : ∀ x ∈ l, p x = false) : keepT p l = l := List.filter_eq_self.2 fun x hx => by rw [h x hx]; rfl

set_option maxRecDepth 100000 in
set_option maxHeartbeats 8000000 in
theorem idxT_any {g : Nat} {cb : Array Value} {p : TxS → Bool} {wb : World} (C : TestT wb g cb p) {v : Value} {l : List TxS} (w : World) (hb : Below wb.heap.size wb w) (h : Rd w v l.length (txsCs l)) :
    Calls Tryz.prog 71 #[v, .func (.func g) #[] cb] w (IdxT w p l) := by
  obtain ⟨ao, c, rfl, hnc, hcm, -, -⟩ := id h
  unfold maxLen at hcm
  obtain ⟨n, hln⟩ : ∃ n, l.length = n := ⟨_, rfl⟩
  have HA := Lib.hid h
  have HLN := Lib.hid hln
  have heg := C.eg
  have HC := Lib.hid C.call
  have HB0 := Lib.hid hb
  rw [hln] at hnc ⊢
  clear h hln C hb
  go_enter Tryz.func71, Tryz.ntmps71
  go_wp2_with fail
  go_loopw [8] (fun vi wr => ∃ k : Nat, k ≤ n ∧ vi = .int .i64 k ∧ Hid (∀ x ∈ l.take k, p x = false) ∧ Hid (Below w.heap.size w wr)) (fun vi _ => n - (intOf vi).toNat)
  case atStart => exact ⟨0, Nat.zero_le _, by go_num, (fun x hx => by simp at hx), Below.refl _ _⟩
  case round =>
    obtain ⟨k, hk, rfl, hno, HB⟩ := hrel
    rename World => wr
    by_cases hlt : k < n
    · have hkl : k < l.length := by have := HLN.out; omega
      have hk2 : (k : Int) < (n : Int) := by omega
      obtain ⟨x, hx⟩ : ∃ x, l[k] = x := ⟨_, rfl⟩
      obtain ⟨b, oo, x1, c0, c1, c2, c3, c4, c5, c6, c7, c8, c9, c10, _⟩ := rd_txs (HA.out.later HB.out) rfl k hkl hx
      rw [HLN.out] at x1
      have hcall := HC.out x wr (below_then HB0.out HB.out)
      have HX := Lib.hid hx
      clear hx
      cases hp : p x
      · have hno' : Hid (∀ x ∈ l.take (k + 1), p x = false) := by
          intro y hy
          rw [List.take_succ_eq_append_getElem hkl] at hy
          rcases List.mem_append.1 hy with hy | hy
          · exact hno.out y hy
          · rw [List.mem_singleton.1 hy, HX.out]; exact hp
        rw [hp] at hcall
        have HCL := Lib.hid hcall
        clear hcall hp
        go_wp2_with fail
        refine HCL.out.mono ?_
        rintro e w2 ⟨rfl, hb2⟩
        have HB2 := Lib.hid (below_then HB.out hb2)
        clear hb2 c0 c1 c2 c3 c4 c5 c6 c7 c8 c9 c10
        go_wp2_with fail
        go_roundw
        case rel => exact ⟨k + 1, by omega, by go_num, hno'.out, HB2.out⟩
        case measure => simp [intOf]; omega
      · have HP := Lib.hid hp
        rw [hp] at hcall
        have HCL := Lib.hid hcall
        clear hcall hp
        go_wp2_with fail
        refine HCL.out.mono ?_
        rintro e w2 ⟨rfl, hb2⟩
        have HB2 := Lib.hid (below_then HB.out hb2)
        clear hb2 c0 c1 c2 c3 c4 c5 c6 c7 c8 c9 c10
        go_wp2_with fail
        go_ret
        exact ⟨.inr ⟨k, hkl, rfl, by rw [HX.out]; exact HP.out, hno.out⟩, HB2.out⟩
    · have hkn : n = k := by omega
      subst hkn
      have hk2 : ¬ (n : Int) < (n : Int) := by omega
      have he := hno.out
      rw [List.take_of_length_le (by have := HLN.out; omega)] at he
      have HE := Lib.hid he
      clear he
      go_wp2_with fail
      go_ret
      exact ⟨.inl ⟨rfl, HE.out⟩, HB.out⟩

set_option maxRecDepth 100000 in
set_option maxHeartbeats 8000000 in
theorem delT_row {g : Nat} {cb : Array Value} {p : TxS → Bool} {wb w0 : World} (C : TestT wb g cb p) {l : List TxS} {blk off n cap : Nat} (R : Rw TxS.cs 11 w0 blk off n l) (_ : n ≤ 1000000) (hcap : n ≤ cap) (hcm : cap ≤ maxLen) (hold : Below wb.heap.size wb w0) (hblk : wb.heap.size ≤ blk) :
    Calls Tryz.prog 47 #[.slice (some ⟨blk, off, none⟩) n cap, .func (.func g) #[] cb] w0 fun e w' => ∃ v', e = .returned v' ∧ Rd w' v' (keepT p l).length (txsCs (keepT p l)) ∧ Below wb.heap.size wb w' := by
  have hln := R.hn
  have hrd0 : Rd w0 (.slice (some ⟨blk, off, none⟩) n cap) l.length (txsCs l) := by have := R.start.rdk R hln hcap hcm; rw [hln]; exact this
  have hidx := idxT_any C w0 hold hrd0
  have HLN := Lib.hid hln
  have HI := Lib.hid hidx
  have heg := C.eg
  have HC := Lib.hid C.call
  have HR := Lib.hid R
  have HOLD := Lib.hid hold
  have HBLK := Lib.hid hblk
  have HRD := Lib.hid hrd0
  have HCM := Lib.hid hcm
  unfold maxLen at hcm
  clear hln hidx C R hold hblk hrd0
  go_enter Tryz.func47, Tryz.ntmps47
  go_wp2_with fail
  refine HI.out.mono ?_
  rintro e w1 ⟨⟨rfl, hno⟩ | ⟨k0, hk0, rfl, hp0, hno⟩, hb1⟩
  · have HK : Hid (keepT p l = l) := keepT_all hno
    have HB1 := Lib.hid hb1
    clear hno hb1
    go_wp2_with fail
    go_ret
    exact ⟨_, rfl, by rw [HK.out]; exact HRD.out.later HB1.out, HOLD.out.trans (HB1.out.mono HOLD.out.size)⟩
  have hk0n : k0 < n := by have := HLN.out; omega
  have hne : ((k0 : Int) == -1) = false := beq_eq_false_iff_ne.2 (by omega)
  have HS0 := Lib.hid (HR.out.start.later hb1)
  have hkeep0 : keepT p (l.take (k0 + 1)) = l.take k0 := by rw [keepT_next p hk0 rfl, hp0, keepT_all hno]; simp
  have HK0 := Lib.hid hkeep0
  clear hno hb1 hkeep0 hp0
  go_wp2_with fail
  go_loopw [5, 6] (fun vi vj wr => ∃ (i j : Nat) (M : List TxS), i < j ∧ j ≤ n ∧ vi = .int .i64 i ∧ vj = .int .i64 j ∧ Hid (i = (keepT p (l.take j)).length ∧ i + M.length = j ∧ SB TxS.cs 11 w0 blk off (keepT p (l.take j) ++ (M ++ l.drop j)) wr)) (fun _ vj _ => n - (intOf vj).toNat)
  case atStart =>
    refine ⟨k0, k0 + 1, [l[k0]], by omega, by omega, by go_num, by go_num, ?_⟩
    show _ ∧ _ ∧ _
    rw [HK0.out]
    refine ⟨by rw [List.length_take]; omega, rfl, ?_⟩
    have : l.take k0 ++ ([l[k0]] ++ l.drop (k0 + 1)) = l := by rw [List.singleton_append, ← List.drop_eq_getElem_cons hk0, List.take_append_drop]
    rw [this]
    exact HS0.out
  case round =>
    obtain ⟨i, j, M, hij, hj, rfl, rfl, HH⟩ := hrel
    rename World => wr
    by_cases hlt : j < n
    · have hjl : j < l.length := by have := HLN.out; omega
      have hj2 : (j : Int) < (n : Int) := by omega
      obtain ⟨x, hx⟩ : ∃ x, l[j] = x := ⟨_, rfl⟩
      have hdr : l.drop j = x :: l.drop (j + 1) := by rw [List.drop_eq_getElem_cons hjl, hx]
      have hnx := keepT_next p hjl hx
      obtain ⟨h1, h2, h3⟩ := HH.out
      have hlen : (keepT p (l.take j) ++ (M ++ l.drop j)).length = n := by simp only [List.length_append, List.length_drop]; have := HLN.out; omega
      rw [hdr] at h3 hlen
      obtain ⟨c0, c1, c2, c3, c4, c5, c6, c7, c8, c9, c10, -, -, -, -, -, -, -, -, -, -, -⟩ := SB.cellT (P := keepT p (l.take j) ++ M) (S := l.drop (j + 1)) (x := x) (i := j) (by simpa using h3) HR.out (by simpa using hlen) (by rw [List.length_append]; omega) rfl
      obtain ⟨m0, M', rfl⟩ : ∃ m0 M', M = m0 :: M' := by
        cases M with
        | nil => simp at h2; omega
        | cons a r => exact ⟨a, r, rfl⟩
      obtain ⟨w3, hw3⟩ : ∃ w3, wr.alloc (.cells #[.int .i64 x.dev, .int .i64 x.seq, .int .i64 x.time, .slice x.ad x.nd x.cd, .slice x.ao x.no x.co, .slice x.ae x.ne x.ce, .bool x.fm, .slice x.ah x.nh x.ch, .int .i64 x.note, .int .i64 x.whom, .int .i64 x.upto] 31) = w3 := ⟨_, rfl⟩
      have hbw3 : Below wr.heap.size wr w3 := by rw [← hw3]; exact below_alloc _ _
      have bw3 : Bx w3 wr.heap.size #[.int .i64 x.dev, .int .i64 x.seq, .int .i64 x.time, .slice x.ad x.nd x.cd, .slice x.ao x.no x.co, .slice x.ae x.ne x.ce, .bool x.fm, .slice x.ah x.nh x.ch, .int .i64 x.note, .int .i64 x.whom, .int .i64 x.upto] 31 := by rw [← hw3]; exact bx_new rfl
      have Hw3 := Lib.hid hw3
      have HQ := Lib.hid bw3
      have HS3 := Lib.hid (h3.later hbw3)
      have HLEN := Lib.hid hlen
      have HNX := Lib.hid hnx
      have HDR := Lib.hid hdr
      have hcall := HC.out x w3 (HS3.out.old HOLD.out HBLK.out)
      clear h1 h2 h3 hlen hnx hdr hx hw3 hbw3 bw3
      go_upto_region 8 with fail
      rw [Hw3.out]
      clear c0 c1 c2 c3 c4 c5 c6 c7 c8 c9 c10
      have q0 := cell_of_box HQ.out 0 rfl
      have q1 := cell_of_box HQ.out 1 rfl
      have q2 := cell_of_box HQ.out 2 rfl
      have q3 := cell_of_box HQ.out 3 rfl
      have q4 := cell_of_box HQ.out 4 rfl
      have q5 := cell_of_box HQ.out 5 rfl
      have q6 := cell_of_box HQ.out 6 rfl
      have q7 := cell_of_box HQ.out 7 rfl
      have q8 := cell_of_box HQ.out 8 rfl
      have q9 := cell_of_box HQ.out 9 rfl
      have q10 := cell_of_box HQ.out 10 rfl
      cases hp : p x
      all_goals
        rw [hp] at hcall
        have HCL := Lib.hid hcall
        have HP := Lib.hid hp
        clear hcall hp
        go_wp2_with fail
        refine HCL.out.mono ?_
        rintro e w4 ⟨rfl, hb4⟩
        have HS4 := Lib.hid (HS3.out.later hb4)
        have HQ4 := Lib.hid (bx_later hb4 HQ.out)
        clear hb4 q0 q1 q2 q3 q4 q5 q6 q7 q8 q9 q10
      · obtain ⟨h1, h2, -⟩ := HH.out
        have h4 : SB TxS.cs 11 w0 blk off (keepT p (l.take j) ++ m0 :: (M' ++ x :: l.drop (j + 1))) w4 := by simpa using HS4.out
        obtain ⟨c0, c1, c2, c3, c4, c5, c6, c7, c8, c9, c10, f0, f1, f2, f3, f4, f5, f6, f7, f8, f9, f10⟩ := SB.cellT (i := i) h4 HR.out (by have := HLEN.out; simpa using this) h1 rfl
        have hst := SB.storedT (i := i) (y := x) h4 HR.out h1 rfl
        have HST := Lib.hid hst
        clear h4 hst h1 h2
        have q0 := cell_of_box HQ4.out 0 rfl
        have q1 := cell_of_box HQ4.out 1 rfl
        have q2 := cell_of_box HQ4.out 2 rfl
        have q3 := cell_of_box HQ4.out 3 rfl
        have q4 := cell_of_box HQ4.out 4 rfl
        have q5 := cell_of_box HQ4.out 5 rfl
        have q6 := cell_of_box HQ4.out 6 rfl
        have q7 := cell_of_box HQ4.out 7 rfl
        have q8 := cell_of_box HQ4.out 8 rfl
        have q9 := cell_of_box HQ4.out 9 rfl
        have q10 := cell_of_box HQ4.out 10 rfl
        have hin : (i : Int) < (n : Int) := by omega
        go_wp2_with fail
        go_roundw
        case rel =>
          refine ⟨i + 1, j + 1, M' ++ [x], by omega, by omega, by go_num, by go_num, ?_⟩
          show _ ∧ _ ∧ _
          obtain ⟨h1, h2, -⟩ := HH.out
          rw [HNX.out, HP.out]
          refine ⟨by simp [← h1], by simp at h2 ⊢; omega, ?_⟩
          have := HST.out
          simpa using this
        case measure => simp [intOf]; omega
      · clear HQ4
        go_wp2_with fail
        go_roundw
        case rel =>
          refine ⟨i, j + 1, (m0 :: M') ++ [x], by omega, by omega, by go_num, by go_num, ?_⟩
          show _ ∧ _ ∧ _
          obtain ⟨h1, h2, -⟩ := HH.out
          rw [HNX.out, HP.out]
          refine ⟨by simp [← h1], by simp at h2 ⊢; omega, ?_⟩
          have := HS4.out
          simpa using this
        case measure => simp [intOf]; omega
    · have hjn : n = j := by omega
      subst hjn
      have hj2 : ¬ (n : Int) < (n : Int) := by omega
      obtain ⟨h1, h2, h3⟩ := HH.out
      have hM : M.length = n - i := by omega
      have hfull : l.take n = l := List.take_of_length_le (by have := HLN.out; omega)
      have hdr : l.drop n = [] := List.drop_eq_nil_of_le (by have := HLN.out; omega)
      rw [hfull] at h1 h3
      rw [hdr, List.append_nil] at h3
      have hlen : (keepT p l ++ M).length = n := by rw [List.length_append]; omega
      have hZ : (List.replicate M.length (#[.int .i64 0, .int .i64 0, .int .i64 0, .slice none 0 0, .slice none 0 0, .slice none 0 0, .bool false, .slice none 0 0, .int .i64 0, .int .i64 0, .int .i64 0] : Array Value).toList).flatten = (List.replicate M.length (default : TxS)).flatMap TxS.cs := by
        rw [List.flatMap_def, List.map_replicate]; rfl
      have hlaid := SB.laid (P := keepT p l) (X := M) (Y := List.replicate M.length default) (S := []) (i := i) (by simpa using h3) HR.out (by simp) h1
      rw [← hZ, List.append_nil] at hlaid
      have hHk := h3.holds HR.out hlen
      have hcl : ∀ ty, (Builtin.clear_ #[24] ty #[.slice (some ⟨blk, off + i * 11, none⟩) (n - i) (cap - i)]).run Tryz.prog wr = .ok (.tuple #[]) (wr.setCells blk (off + i * 11) (List.replicate M.length (#[.int .i64 0, .int .i64 0, .int .i64 0, .slice none 0 0, .slice none 0 0, .slice none 0 0, .bool false, .slice none 0 0, .int .i64 0, .int .i64 0, .int .i64 0] : Array Value).toList).flatten) := fun ty => by
        rw [hM]
        have hkj : ∀ t, t < (n - i) * 11 → i * 11 + t < (flatK TxS.cs 11 (keepT p l ++ M).toArray).size := fun t ht => by
          rw [size_flatK, List.size_toArray, hlen]; omega
        exact run_clear_k wr 24 31 ty (.agg #[.int .i64 0, .int .i64 0, .int .i64 0, .slice none 0 0, .slice none 0 0, .slice none 0 0, .bool false, .slice none 0 0, .int .i64 0, .int .i64 0, .int .i64 0]) _ elTx.ty (fun w => by kernel_rfl) rfl (by decide) (fun u hu => by revert u; decide) blk _ (n - i) _ (by omega) (fun t ht => by rw [Nat.add_assoc, (hHk (i * 11 + t) (hkj t ht)).1]; rfl) (fun t ht => by rw [Nat.add_assoc]; exact (hHk (i * 11 + t) (hkj t ht)).2)
      have hsl := fun W => run_lo_at elTx blk off n cap i (by omega) hcap (by omega) W
      obtain ⟨w5, hw5⟩ : ∃ w5, wr.setCells blk (off + i * 11) (List.replicate M.length (#[.int .i64 0, .int .i64 0, .int .i64 0, .slice none 0 0, .slice none 0 0, .slice none 0 0, .bool false, .slice none 0 0, .int .i64 0, .int .i64 0, .int .i64 0] : Array Value).toList).flatten = w5 := ⟨_, rfl⟩
      rw [hw5] at hlaid hcl
      have hrd5 := hlaid.rdk HR.out (by rw [List.length_append, List.length_replicate]; omega) hcap HCM.out
      obtain ⟨a', c', hhi, hrd6⟩ := run_part_hi elTx hrd5 (by rw [flatC_length TxS.cs 11 (fun _ => rfl), List.length_append, List.length_replicate]; omega) i (by omega)
      rw [List.flatMap_append, List.take_append_of_le_length (by rw [flatC_length TxS.cs 11 (fun _ => rfl), h1]; exact Nat.le_refl _), List.take_of_length_le (by rw [flatC_length TxS.cs 11 (fun _ => rfl), h1]; exact Nat.le_refl _)] at hrd6
      have HRD6 := Lib.hid hrd6
      have HOB := Lib.hid (hlaid.old HOLD.out HBLK.out)
      have HI1 := Lib.hid h1
      have hin : (i : Int) ≤ (n : Int) := by omega
      clear h1 h2 h3 hM hfull hdr hlen hZ hlaid hHk hrd5 hrd6 HH hw5
      go_wp2_with fail
      go_ret
      exact ⟨_, rfl, by rw [← HI1.out]; exact HRD6.out, HOB.out⟩
end Go.Proofs.YtnolbabpkhdpmaaGreat
/- slices.DeleteFunc over numbers. (printed by tools/gen_yq.py) -/
namespace Go.Proofs.YtnolbabpkhdpmaaGreat
open Go.RowKit Go.Sort Go.BigFrame
attribute [local irreducible] FlowW

set_option maxRecDepth 100000 in
set_option maxHeartbeats 1000000 in
theorem indexN_any {g : Nat} {cb : Array Value} {p : Int → Bool} (v : Value) (l : List Int) (w : World) (C : TestI g cb p) (h : Rd w v l.length (l.map ic)) :
    Calls Tryz.prog 64 #[v, .func (.func g) #[] cb] w (IdxPostI w p l) := by
  obtain ⟨ao, c, rfl, hnc, hcm, _, _⟩ := id h
  obtain ⟨n, hln⟩ : ∃ n, l.length = n := ⟨_, rfl⟩
  have HA := Lib.hid h
  have HLN := Lib.hid hln
  have heg := C.eg
  have HC := Lib.hid C.call
  rw [hln] at hnc ⊢
  unfold maxLen at hcm
  clear h hln C
  go_enter Tryz.func64, Tryz.ntmps64
  go_wp2
  go_loop [8] (fun vi => ∃ k : Nat, k ≤ n ∧ vi = .int .i64 k ∧ Hid (∀ x ∈ l.take k, p x = false)) (fun vi => n - (intOf vi).toNat)
  case atStart => exact ⟨0, Nat.zero_le _, rfl, (fun x hx => by simp at hx)⟩
  case round =>
    obtain ⟨k, hk, rfl, hno⟩ := hrel
    by_cases hlt : k < n
    · have hkl : k < l.length := by have := HLN.out; omega
      obtain ⟨A, x1, c0, _⟩ := rd_one elInts ic HA.out rfl k hkl
      rw [HLN.out] at x1
      obtain ⟨x, hx⟩ : ∃ x, l[k] = x := ⟨_, rfl⟩
      rw [hx] at c0
      have hcall := HC.out x w
      have HX := Lib.hid hx
      clear hx
      cases hp : p x
      · have hno' : Hid (∀ x ∈ l.take (k + 1), p x = false) := by
          intro y hy
          rw [List.take_succ_eq_append_getElem hkl] at hy
          rcases List.mem_append.1 hy with hy | hy
          · exact hno.out y hy
          · rw [List.mem_singleton.1 hy, HX.out]; exact hp
        rw [hp] at hcall
        have HCL := Lib.hid hcall
        clear hcall hp
        go_wp2_with fail
        refine HCL.out.mono ?_
        rintro e w2 ⟨rfl, rfl⟩
        go_wp2_with fail
        go_round
        case rel => exact ⟨k + 1, by omega, by go_num, hno'⟩
        case measure => simp [intOf]; omega
      · have HP := Lib.hid hp
        rw [hp] at hcall
        have HCL := Lib.hid hcall
        clear hcall hp
        go_wp2_with fail
        refine HCL.out.mono ?_
        rintro e w2 ⟨rfl, rfl⟩
        go_wp2_with fail
        go_ret
        exact ⟨.inr ⟨k, hkl, rfl, by rw [HX.out]; exact HP.out, hno.out⟩, rfl⟩
    · have hkn : k = n := by omega
      subst hkn
      have he : ∀ x ∈ l, p x = false := by
        have := hno.out
        rwa [List.take_of_length_le (by have := HLN.out; omega)] at this
      have HE := Lib.hid he
      clear he
      go_wp2_with fail
      go_ret
      exact ⟨.inl ⟨rfl, HE.out⟩, rfl⟩

def keepI (p : Int → Bool) (l : List Int) : List Int := l.filter fun x => !p x
theorem keepI_next (p : Int → Bool) {l : List Int} {k : Nat} (hk : k < l.length) {x : Int} (hx : l[k] = x) : keepI p (l.take (k + 1)) = keepI p (l.take k) ++ if p x then [] else [x] := by
  unfold keepI
  rw [List.take_succ_eq_append_getElem hk, List.filter_append, hx]
  cases hp : p x <;> simp [hp]
theorem keepI_all {p : Int → Bool} {l : List Int} (h : ∀ x ∈ l, p x = false) : keepI p l = l := List.filter_eq_self.2 fun x hx => by rw [h x hx]; rfl
def enI (x : Int) : List Value := [.int .i64 x]
theorem enI_flat (l : List Int) : l.flatMap enI = l.map ic := by
  induction l with
  | nil => rfl
  | cons a l ih => rw [List.flatMap_cons, ih]; rfl
set_option maxRecDepth 100000 in
set_option maxHeartbeats 8000000 in
theorem delI_row {g : Nat} {cb : Array Value} {p : Int → Bool} {wb w0 : World} (C : TestI g cb p) {l : List Int} {blk off n cap : Nat} (R : Rw enI 1 w0 blk off n l) (_ : n ≤ 1000000) (hcap : n ≤ cap) (hcm : cap ≤ maxLen) (hold : Below wb.heap.size wb w0) (hblk : wb.heap.size ≤ blk) :
    Calls Tryz.prog 41 #[.slice (some ⟨blk, off, none⟩) n cap, .func (.func g) #[] cb] w0 fun e w' => ∃ v', e = .returned v' ∧ Rd w' v' (keepI p l).length ((keepI p l).map ic) ∧ Below wb.heap.size wb w' := by
  have hln := R.hn
  have hrd0 : Rd w0 (.slice (some ⟨blk, off, none⟩) n cap) l.length (l.map ic) := by have := R.start.rdk R hln hcap hcm; rw [hln, ← enI_flat]; exact this
  have hidx := indexN_any _ l w0 C hrd0
  have HLN := Lib.hid hln
  have HI := Lib.hid hidx
  have heg := C.eg
  have HC := Lib.hid C.call
  have HR := Lib.hid R
  have HOLD := Lib.hid hold
  have HBLK := Lib.hid hblk
  have HRD := Lib.hid hrd0
  have HCM := Lib.hid hcm
  unfold maxLen at hcm
  clear hln hidx C R hold hblk hrd0
  go_enter Tryz.func41, Tryz.ntmps41
  go_wp2_with fail
  refine HI.out.mono ?_
  rintro e w1 ⟨⟨rfl, hno⟩ | ⟨k0, hk0, rfl, hp0, hno⟩, rfl⟩
  · have HK : Hid (keepI p l = l) := keepI_all hno
    clear hno
    go_wp2_with fail
    go_ret
    exact ⟨_, rfl, by rw [HK.out]; exact HRD.out, HOLD.out⟩
  have hk0n : k0 < n := by have := HLN.out; omega
  have hne : ((k0 : Int) == -1) = false := beq_eq_false_iff_ne.2 (by omega)
  have HS0 := Lib.hid HR.out.start
  have hkeep0 : keepI p (l.take (k0 + 1)) = l.take k0 := by rw [keepI_next p hk0 rfl, hp0, keepI_all hno]; simp
  have HK0 := Lib.hid hkeep0
  clear hno hkeep0 hp0
  go_wp2_with fail
  go_loopw [5, 6] (fun vi vj wr => ∃ (i j : Nat) (M : List Int), i < j ∧ j ≤ n ∧ vi = .int .i64 i ∧ vj = .int .i64 j ∧ Hid (i = (keepI p (l.take j)).length ∧ i + M.length = j ∧ SB enI 1 w0 blk off (keepI p (l.take j) ++ (M ++ l.drop j)) wr)) (fun _ vj _ => n - (intOf vj).toNat)
  case atStart =>
    refine ⟨k0, k0 + 1, [l[k0]], by omega, by omega, by go_num, by go_num, ?_⟩
    show _ ∧ _ ∧ _
    rw [HK0.out]
    refine ⟨by rw [List.length_take]; omega, rfl, ?_⟩
    have : l.take k0 ++ ([l[k0]] ++ l.drop (k0 + 1)) = l := by rw [List.singleton_append, ← List.drop_eq_getElem_cons hk0, List.take_append_drop]
    rw [this]
    exact HS0.out
  case round =>
    obtain ⟨i, j, M, hij, hj, rfl, rfl, HH⟩ := hrel
    rename World => wr
    by_cases hlt : j < n
    · have hjl : j < l.length := by have := HLN.out; omega
      have hj2 : (j : Int) < (n : Int) := by omega
      obtain ⟨x, hx⟩ : ∃ x, l[j] = x := ⟨_, rfl⟩
      have hdr : l.drop j = x :: l.drop (j + 1) := by rw [List.drop_eq_getElem_cons hjl, hx]
      have hnx := keepI_next p hjl hx
      obtain ⟨h1, h2, h3⟩ := HH.out
      have hlen : (keepI p (l.take j) ++ (M ++ l.drop j)).length = n := by simp only [List.length_append, List.length_drop]; have := HLN.out; omega
      rw [hdr] at h3 hlen
      obtain ⟨c0, -⟩ := SB.cell1 (P := keepI p (l.take j) ++ M) (S := l.drop (j + 1)) (x := x) (i := j) (by simpa using h3) HR.out (by simpa using hlen) (by rw [List.length_append]; omega) rfl
      obtain ⟨m0, M', rfl⟩ : ∃ m0 M', M = m0 :: M' := by
        cases M with
        | nil => simp at h2; omega
        | cons a r => exact ⟨a, r, rfl⟩
      have HS4 := Lib.hid h3
      have HLEN := Lib.hid hlen
      have HNX := Lib.hid hnx
      have hcall := HC.out x wr
      clear h1 h2 h3 hlen hnx hdr hx
      cases hp : p x
      all_goals
        rw [hp] at hcall
        have HCL := Lib.hid hcall
        have HP := Lib.hid hp
        clear hcall hp
      · obtain ⟨h1, h2, -⟩ := HH.out
        have h4 : SB enI 1 w0 blk off (keepI p (l.take j) ++ m0 :: (M' ++ x :: l.drop (j + 1))) wr := by simpa using HS4.out
        obtain ⟨d0, f0⟩ := SB.cell1 (i := i) h4 HR.out (by have := HLEN.out; simpa using this) h1 rfl
        have hst := SB.stored1 (i := i) (y := x) h4 HR.out h1 rfl
        have HST := Lib.hid hst
        clear h4 hst h1 h2
        have hin : (i : Int) < (n : Int) := by omega
        go_wp2_with fail
        refine HCL.out.mono ?_
        rintro e w4 ⟨rfl, rfl⟩
        go_wp2_with fail
        go_roundw
        case rel =>
          refine ⟨i + 1, j + 1, M' ++ [x], by omega, by omega, by go_num, by go_num, ?_⟩
          show _ ∧ _ ∧ _
          obtain ⟨h1, h2, -⟩ := HH.out
          rw [HNX.out, HP.out]
          refine ⟨by simp [← h1], by simp at h2 ⊢; omega, ?_⟩
          have := HST.out
          simpa using this
        case measure => simp [intOf]; omega
      · go_wp2_with fail
        refine HCL.out.mono ?_
        rintro e w4 ⟨rfl, rfl⟩
        go_wp2_with fail
        go_roundw
        case rel =>
          refine ⟨i, j + 1, (m0 :: M') ++ [x], by omega, by omega, by go_num, by go_num, ?_⟩
          show _ ∧ _ ∧ _
          obtain ⟨h1, h2, -⟩ := HH.out
          rw [HNX.out, HP.out]
          refine ⟨by simp [← h1], by simp at h2 ⊢; omega, ?_⟩
          have := HS4.out
          simpa using this
        case measure => simp [intOf]; omega
    · have hjn : n = j := by omega
      subst hjn
      have hj2 : ¬ (n : Int) < (n : Int) := by omega
      obtain ⟨h1, h2, h3⟩ := HH.out
      have hM : M.length = n - i := by omega
      have hfull : l.take n = l := List.take_of_length_le (by have := HLN.out; omega)
      have hdr : l.drop n = [] := List.drop_eq_nil_of_le (by have := HLN.out; omega)
      rw [hfull] at h1 h3
      rw [hdr, List.append_nil] at h3
      have hlen : (keepI p l ++ M).length = n := by rw [List.length_append]; omega
      have hZ : (List.replicate M.length [Value.int .i64 0]).flatten = (List.replicate M.length (0 : Int)).flatMap enI := by
        rw [List.flatMap_def, List.map_replicate]; rfl
      have hlaid := SB.laid (P := keepI p l) (X := M) (Y := List.replicate M.length 0) (S := []) (i := i) (by simpa using h3) HR.out (by simp) h1
      rw [← hZ, List.append_nil, Nat.mul_one] at hlaid
      have hHk := h3.holds HR.out hlen
      have hcl : ∀ ty, (Builtin.clear_ #[22] ty #[.slice (some ⟨blk, off + i, none⟩) (n - i) (cap - i)]).run Tryz.prog wr = .ok (.tuple #[]) (wr.setCells blk (off + i) (List.replicate M.length [Value.int .i64 0]).flatten) := fun ty => by
        rw [hM]
        have hkj : ∀ t, t < (n - i) * 1 → i + t < (flatK enI 1 (keepI p l ++ M).toArray).size := fun t ht => by
          rw [size_flatK, List.size_toArray, hlen]; omega
        exact run_clear_k wr 22 3 ty (.int .i64 0) _ elInts.ty (fun w => by kernel_rfl) rfl (by decide) (fun u hu => by revert u; decide) blk _ (n - i) _ (by omega) (fun t ht => by rw [Nat.add_assoc, (hHk (i + t) (hkj t ht)).1]; rfl) (fun t ht => by rw [Nat.add_assoc]; exact (hHk (i + t) (hkj t ht)).2)
      have hsl := fun W => run_lo_at elInts blk off n cap i (by omega) hcap (by omega) W
      simp only [Nat.mul_one] at hsl
      obtain ⟨w5, hw5⟩ : ∃ w5, wr.setCells blk (off + i) (List.replicate M.length [Value.int .i64 0]).flatten = w5 := ⟨_, rfl⟩
      rw [hw5] at hlaid hcl
      have hrd5 := hlaid.rdk HR.out (by rw [List.length_append, List.length_replicate]; omega) hcap HCM.out
      rw [enI_flat] at hrd5
      obtain ⟨a', c', hhi, hrd6⟩ := run_part_hi elInts hrd5 (by rw [List.length_map, List.length_append, List.length_replicate]; omega) i (by omega)
      rw [List.map_append, Nat.mul_one, List.take_append_of_le_length (by rw [List.length_map, h1]; exact Nat.le_refl _), List.take_of_length_le (by rw [List.length_map, h1]; exact Nat.le_refl _)] at hrd6
      have HRD6 := Lib.hid hrd6
      have HOB := Lib.hid (hlaid.old HOLD.out HBLK.out)
      have HI1 := Lib.hid h1
      have hin : (i : Int) ≤ (n : Int) := by omega
      clear h1 h2 h3 hM hfull hdr hlen hZ hlaid hHk hrd5 hrd6 HH hw5
      go_wp2_with fail
      go_ret
      exact ⟨_, rfl, by rw [← HI1.out]; exact HRD6.out, HOB.out⟩
theorem delI_any {g : Nat} {cb : Array Value} {p : Int → Bool} {wb : World} (C : TestI g cb p) {v : Value} {l : List Int} (w : World) (hb : Below wb.heap.size wb w) (h : w.ownsRow wb.heap.size 3 1 v l.length (l.map ic)) (hn : l.length ≤ 1000000) :
    Calls Tryz.prog 41 #[v, .func (.func g) #[] cb] w fun e w' => ∃ v', e = .returned v' ∧ Rd w' v' (keepI p l).length ((keepI p l).map ic) ∧ Below wb.heap.size wb w' := by
  rcases id h.2 with ⟨rfl, hnil⟩ | ⟨blk, cap, cur, rfl, hbg, hg, hnc, hcm, hcs, htake⟩
  · have hl : l = [] := List.eq_nil_of_length_eq_zero hnil
    subst hl
    have HI := Lib.hid (indexN_any _ [] w C (Rd.of_own h))
    have HB := Lib.hid hb
    clear h hb hnil
    go_enter Tryz.func41, Tryz.ntmps41
    go_wp2_with fail
    refine HI.out.mono ?_
    rintro e w1 ⟨⟨rfl, -⟩ | ⟨k0, hk0, -⟩, rfl⟩
    · go_wp2_with fail
      go_ret
      exact ⟨_, rfl, ⟨none, 0, rfl, Nat.le_refl _, Nat.zero_le _, fun _ => rfl, fun a ha => by cases ha⟩, HB.out⟩
    · exact absurd hk0 (Nat.not_lt_zero _)
  · have R : Rw enI 1 w blk 0 l.length l := ⟨fun _ => rfl, fun x u hu => by rw [List.mem_singleton.1 hu]; rfl, holds_ownK (enc := enI) (k := 1) (fun _ => rfl) (by rw [enI_flat]; exact h), (Array.getElem?_eq_some_iff.1 hg).1, rfl⟩
    exact delI_row C R hn hnc hcm hb hbg
end Go.Proofs.YtnolbabpkhdpmaaGreat
/- Layer 20 (past): Past. (printed by tools/gen_yp.py) -/
namespace Go.Proofs.YtnolbabpkhdpmaaGreat
open Go.RowKit Go.Sort Go.BigFrame
attribute [local irreducible] FlowW

/-- What a transaction stands on, as it is done. -/
def pastT (l : List TxS) (deps : List Int) : List TxS := (ordT l).filter fun x => hasV deps x.dot
theorem keepT_past (l : List TxS) (deps : List Int) : keepT (fun x => !hasV deps x.dot) (ordT l) = pastT l deps := by unfold keepT pastT; simp
theorem pastT_mem {l : List TxS} {deps : List Int} {x : TxS} (h : x ∈ pastT l deps) : x ∈ l ∧ hasV deps x.dot = true := by
  obtain ⟨h1, h2⟩ := List.mem_filter.1 h
  exact ⟨ordT_mem h1, h2⟩
def LPost (w : World) (l : List TxS) (e : Ending) (w' : World) : Prop := ∃ v, e = .returned v ∧ LRd w' v l ∧ Below w.heap.size w w'
set_option maxRecDepth 100000 in
set_option maxHeartbeats 8000000 in
theorem past1_any {dev seq time note whom upto : Int} {fm : Bool} {ad ao ae ah : Option Addr} {nd cd no co ne ce nh ch : Nat} {deps : List Int} {q : Nat} (x : TxS) (w : World) (hq : Bx w q #[.int .i64 dev, .int .i64 seq, .int .i64 time, .slice ad nd cd, .slice ao no co, .slice ae ne ce, .bool fm, .slice ah nh ch, .int .i64 note, .int .i64 whom, .int .i64 upto] 31) (hd : Rd w (.slice ad nd cd) deps.length (deps.map ic)) :
    Calls Tryz.prog 48 #[.agg #[.int .i64 x.dev, .int .i64 x.seq, .int .i64 x.time, .slice x.ad x.nd x.cd, .slice x.ao x.no x.co, .slice x.ae x.ne x.ce, .bool x.fm, .slice x.ah x.nh x.ch, .int .i64 x.note, .int .i64 x.whom, .int .i64 x.upto], .pointer (some ⟨q, 0, none⟩)] w fun e w' => e = .returned (.bool (!hasV deps x.dot)) ∧ Below w.heap.size w w' := by
  obtain ⟨r, hr⟩ : ∃ r, hasV deps ⟨x.dev, x.seq⟩ = r := ⟨_, rfl⟩
  have HQ0 := Lib.hid hq
  have HD := Lib.hid hd
  have HR := Lib.hid hr
  have HRR : Hid ((!r) = !hasV deps x.dot) := by show _ = _; unfold TxS.dot; rw [hr]
  obtain ⟨w1, hw1⟩ : ∃ w1, w.alloc (.cells #[.int .i64 x.dev, .int .i64 x.seq, .int .i64 x.time, .slice x.ad x.nd x.cd, .slice x.ao x.no x.co, .slice x.ae x.ne x.ce, .bool x.fm, .slice x.ah x.nh x.ch, .int .i64 x.note, .int .i64 x.whom, .int .i64 x.upto] 31) = w1 := ⟨_, rfl⟩
  have hbw1 : Below w.heap.size w w1 := by rw [← hw1]; exact below_alloc _ _
  have bw1 : Bx w1 w.heap.size #[.int .i64 x.dev, .int .i64 x.seq, .int .i64 x.time, .slice x.ad x.nd x.cd, .slice x.ao x.no x.co, .slice x.ae x.ne x.ce, .bool x.fm, .slice x.ah x.nh x.ch, .int .i64 x.note, .int .i64 x.whom, .int .i64 x.upto] 31 := by rw [← hw1]; exact bx_new rfl
  have Hw1 := Lib.hid hw1
  have HQ := Lib.hid bw1
  have HB1 := Lib.hid hbw1
  clear hq hd hr hw1 hbw1 bw1
  go_enter Tryz.func48, Tryz.ntmps48
  go_upto_region 1 with fail
  rw [Hw1.out]
  have p3 := cell_of_box (bx_later HB1.out HQ0.out) 3 rfl
  have q0 := cell_of_box HQ.out 0 rfl
  have q1 := cell_of_box HQ.out 1 rfl
  have q2 := cell_of_box HQ.out 2 rfl
  have q3 := cell_of_box HQ.out 3 rfl
  have q4 := cell_of_box HQ.out 4 rfl
  have q5 := cell_of_box HQ.out 5 rfl
  have q6 := cell_of_box HQ.out 6 rfl
  have q7 := cell_of_box HQ.out 7 rfl
  have q8 := cell_of_box HQ.out 8 rfl
  have q9 := cell_of_box HQ.out 9 rfl
  have q10 := cell_of_box HQ.out 10 rfl
  refine wp_region_flow (by kernel_rfl) 7 [(3, ⟨fun v => v = .agg #[.int .i64 x.dev, .int .i64 x.seq], fun _ _ _ _ => True⟩), (4, ⟨fun v => v = .bool r, fun _ _ _ _ => True⟩)] (by kernel_rfl) ?_ ?_ ?_
  · intro x hx
    simp only [List.mem_cons, List.not_mem_nil, or_false] at hx
    rcases hx with rfl | rfl
    · exact ⟨_, rfl⟩
    · exact ⟨_, rfl⟩
  · intro x hx v lo hi w w' h hb
    simp only [List.mem_cons, List.not_mem_nil, or_false] at hx
    rcases hx with rfl | rfl
    · exact trivial
    · exact trivial
  · intro lo hi
    have kp3 := cell_regrown p3
    have kq0 := cell_regrown q0
    have kq1 := cell_regrown q1
    have kq2 := cell_regrown q2
    have kq3 := cell_regrown q3
    have kq4 := cell_regrown q4
    have kq5 := cell_regrown q5
    have kq6 := cell_regrown q6
    have kq7 := cell_regrown q7
    have kq8 := cell_regrown q8
    have kq9 := cell_regrown q9
    have kq10 := cell_regrown q10
    refine flowW_plain rfl ?_
    go_big_quiet_step (fail)
    refine wpQuiet_nil ?_
    refine flowW_plain rfl ?_
    go_big_quiet_step (fail)
    refine wpQuiet_nil ?_
    refine flowW_plain rfl ?_
    go_big_quiet_step (fail)
    refine wpQuiet_nil ?_
    refine flowW_call rfl rfl ?_ ?_
    · intro W hW hF K hK
      clear kp3 kq0 kq1 kq2 kq3 kq4 kq5 kq6 kq7 kq8 kq9 kq10
      go_wp2_with fail
      refine (dot_any _).mono ?_
      rintro e wq ⟨rfl, hbq⟩
      go_wp2_with fail
      exact hK _ _ rfl trivial hbq
    rintro v rfl K hK
    go_simp
    refine hK _ ?_
    clear hK K
    refine flowW_call rfl rfl ?_ ?_
    · intro W hW hF K hK
      clear kp3 kq0 kq1 kq2 kq3 kq4 kq5 kq6 kq7 kq8 kq9 kq10
      go_wp2_with fail
      refine (hasD_b r HR.out (HD.out.later (below_then HB1.out hW))).mono ?_
      rintro e wq ⟨rfl, hbq⟩
      go_wp2_with fail
      exact hK _ _ rfl trivial hbq
    rintro v rfl K hK
    go_simp
    refine hK _ ?_
    clear hK K
    refine flowW_plain rfl ?_
    go_big_quiet_step (fail)
    refine wpQuiet_nil ?_
    refine flowW_plain rfl ?_
    go_big_quiet_step (fail)
    refine wpQuiet_nil ?_
    refine flowW_end fun w4 hw4 hF hD => ?_
    clear kp3 kq0 kq1 kq2 kq3 kq4 kq5 kq6 kq7 kq8 kq9 kq10
    simp only [List.drop_succ_cons, List.drop_zero]
    have HB4 := Lib.hid (below_then HB1.out hw4)
    clear hw4 hF hD p3 q0 q1 q2 q3 q4 q5 q6 q7 q8 q9 q10
    go_wp2_with fail
    go_ret
    exact ⟨ret_bool HRR.out, HB4.out⟩
theorem past_test {dev seq time note whom upto : Int} {fm : Bool} {ad ao ae ah : Option Addr} {nd cd no co ne ce nh ch : Nat} {deps : List Int} {q : Nat} (wb : World) (hq : Bx wb q #[.int .i64 dev, .int .i64 seq, .int .i64 time, .slice ad nd cd, .slice ao no co, .slice ae ne ce, .bool fm, .slice ah nh ch, .int .i64 note, .int .i64 whom, .int .i64 upto] 31) (hd : Rd wb (.slice ad nd cd) deps.length (deps.map ic)) : TestT wb 48 #[.pointer (some ⟨q, 0, none⟩)] (fun x => !hasV deps x.dot) :=
  ⟨enters_of Tryz.func48 (by kernel_rfl) rfl, fun x W hb => past1_any x W (bx_later hb hq) (hd.later hb)⟩
theorem delT_any {g : Nat} {cb : Array Value} {p : TxS → Bool} {wb : World} (C : TestT wb g cb p) {v : Value} {l : List TxS} (w : World) (hb : Below wb.heap.size wb w) (h : OwnT w wb.heap.size v l) (hn : l.length ≤ 1000000) :
    Calls Tryz.prog 47 #[v, .func (.func g) #[] cb] w fun e w' => ∃ v', e = .returned v' ∧ Rd w' v' (keepT p l).length (txsCs (keepT p l)) ∧ Below wb.heap.size wb w' := by
  rcases id h.2 with ⟨rfl, hnil⟩ | ⟨blk, cap, cur, rfl, hbg, hg, hnc, hcm, hcs, htake⟩
  · have hl : l = [] := List.eq_nil_of_length_eq_zero hnil
    subst hl
    have HI := Lib.hid (idxT_any C w hb (Rd.of_own h))
    have HB := Lib.hid hb
    clear h hb hnil
    go_enter Tryz.func47, Tryz.ntmps47
    go_wp2_with fail
    refine HI.out.mono ?_
    rintro e w1 ⟨⟨rfl, -⟩ | ⟨k0, hk0, -⟩, hb1⟩
    · have HB1 := Lib.hid (HB.out.trans (hb1.mono HB.out.size))
      clear hb1
      go_wp2_with fail
      go_ret
      exact ⟨_, rfl, ⟨none, 0, rfl, Nat.le_refl _, Nat.zero_le _, fun _ => rfl, fun a ha => by cases ha⟩, HB1.out⟩
    · exact absurd hk0 (Nat.not_lt_zero _)
  · have R : Rw TxS.cs 11 w blk 0 l.length l := ⟨fun _ => rfl, fun x u hu => txsCs_one x u hu, holds_ownK (enc := TxS.cs) (k := 11) (fun _ => rfl) h, (Array.getElem?_eq_some_iff.1 hg).1, rfl⟩
    exact delT_row C R hn hnc hcm hb hbg
set_option maxRecDepth 100000 in
set_option maxHeartbeats 8000000 in
theorem past_any {dev seq time note whom upto : Int} {fm : Bool} {ad ao ae ah : Option Addr} {nd cd no co ne ce nh ch : Nat} {deps : List Int} {vl : Value} {l : List TxS} (w : World) (hl : LRd w vl l) (hd : Rd w (.slice ad nd cd) deps.length (deps.map ic)) (hn : l.length ≤ 1000000) :
    Calls Tryz.prog 19 #[vl, .agg #[.int .i64 dev, .int .i64 seq, .int .i64 time, .slice ad nd cd, .slice ao no co, .slice ae ne ce, .bool fm, .slice ah nh ch, .int .i64 note, .int .i64 whom, .int .i64 upto]] w (LPost w (pastT l deps)) := by
  obtain ⟨w1, hw1⟩ : ∃ w1, w.alloc (.cells #[.int .i64 dev, .int .i64 seq, .int .i64 time, .slice ad nd cd, .slice ao no co, .slice ae ne ce, .bool fm, .slice ah nh ch, .int .i64 note, .int .i64 whom, .int .i64 upto] 31) = w1 := ⟨_, rfl⟩
  have hbw1 : Below w.heap.size w w1 := by rw [← hw1]; exact below_alloc _ _
  have bw1 : Bx w1 w.heap.size #[.int .i64 dev, .int .i64 seq, .int .i64 time, .slice ad nd cd, .slice ao no co, .slice ae ne ce, .bool fm, .slice ah nh ch, .int .i64 note, .int .i64 whom, .int .i64 upto] 31 := by rw [← hw1]; exact bx_new rfl
  have Hw1 := Lib.hid hw1
  have HX := Lib.hid bw1
  have HB1 := Lib.hid hbw1
  have HL := Lib.hid (hl.later hbw1)
  have HL0 := Lib.hid hl
  have HC := Lib.hid (past_test w1 bw1 (hd.later hbw1))
  have hol : (ordT l).length ≤ 1000000 := by rw [ordT_length]; exact hn
  have HOL := Lib.hid hol
  have HNL := Lib.hid hn
  obtain ⟨la, lc, rfl, -⟩ := id hl.1
  clear hl hd hw1 hbw1 bw1 hol hn
  go_enter Tryz.func19, Tryz.ntmps19
  go_upto_region 1 with fail
  rw [Hw1.out]
  go_wp2_with fail
  refine (ordTx_any _ HL.out HNL.out).mono ?_
  rintro e w2 ⟨v2, rfl, ho2, hb2⟩
  have HO2 := Lib.hid ho2
  have HB2 := Lib.hid hb2
  clear ho2 hb2
  go_wp2_with fail
  refine (delT_any HC.out _ HB2.out HO2.out HOL.out).mono ?_
  rintro e w3 ⟨v3, rfl, hr3, hb3⟩
  rw [keepT_past] at hr3
  have HR3 := Lib.hid hr3
  have HB3 := Lib.hid (below_then HB1.out hb3)
  clear hr3 hb3
  go_wp2_with fail
  go_ret
  exact ⟨_, rfl, ⟨HR3.out, fun t ht => (HL0.out.2 t (pastT_mem ht).1).later HB3.out⟩, HB3.out⟩
end Go.Proofs.YtnolbabpkhdpmaaGreat
/- Layer 20 (past): of, an iterator. (printed by tools/gen_yi.py) -/
namespace Go.Proofs.YtnolbabpkhdpmaaGreat
open Go.RowKit Go.Sort Go.Shelf Go.BigFrame
attribute [local go_sem] Oper.semAt_some

/-- A device's transactions. -/
def devT (dev : Int) (l : List TxS) : List TxS := l.filter fun x => x.dev == dev
theorem devT_next (dev : Int) {l : List TxS} {k : Nat} (hk : k < l.length) {x : TxS} (hx : l[k] = x) : devT dev (l.take (k + 1)) = devT dev (l.take k) ++ if x.dev == dev then [x] else [] := by
  unfold devT
  rw [List.take_succ_eq_append_getElem hk, List.filter_append, hx]
  cases hp : (x.dev == dev) <;> simp [hp]
/-- What a round keeps: whatever lies below a number, and one box. -/
def KpS (n0 q : Nat) (o : Obj) (W W' : World) : Prop := Below n0 W W' ∧ (W.heap[q]? = some o → W'.heap[q]? = some o)
theorem KpS.t {n0 q : Nat} {o : Obj} {A B C : World} (h : KpS n0 q o A B) (k : KpS n0 q o B C) : KpS n0 q o A C := ⟨h.1.trans k.1, fun e => k.2 (h.2 e)⟩
theorem KpS.b {n0 q : Nat} {ob : Obj} {w : World} (hn : n0 ≤ w.heap.size) (hq : q < w.heap.size) (W : World) (l : Nat) (o o' : Obj) (hl : w.heap.size ≤ l) (h : W.heap[l]? = some o) (h1 : o.isCells = false) (h2 : o.isWalk = false) : KpS n0 q ob W (W.putObj l o') :=
  ⟨belowK_b hn W l o o' hl h h1 h2, fun e => (World.putObj_heap_other (by omega)).trans e⟩
theorem grown_of_below {a b : World} {r : Option Nat} (h : Below a.heap.size a b) : a.grownBy b r := ⟨h.os, h.tape, h.output, h.size, fun k hk _ => h.block k hk⟩
/-- A block of cells stays where something that is no cells turns. -/
theorem bx_kept {W W' : World} {row : Option Nat} {q : Nat} {cs : Array Value} {T : TypeId} (h : Bx W q cs T) (hg : W.grownBy W' row) (hr : ∀ r, row = some r → ∃ o : Obj, W.heap[r]? = some o ∧ o.isCells = false) : Bx W' q cs T :=
  bx_grown hg h fun e => by obtain ⟨o, ho, hc⟩ := hr q e; rw [show W.heap[q]? = _ from h] at ho; cases ho; cases hc
theorem of_any (a : Option Addr) (n c : Nat) (dev : Int) (w : World) : Calls Tryz.prog 34 #[.slice a n c, .int .i64 dev] w fun e w' =>
    e = .returned (.func (.func 57) #[] #[.pointer (some ⟨w.heap.size, 0, none⟩), .pointer (some ⟨w.heap.size + 1, 0, none⟩)]) ∧ w' = (w.alloc (.cells #[.slice a n c] 24)).alloc (.cells #[.int .i64 dev] 3) := by
  go_enter Tryz.func34, Tryz.ntmps34
  go_wp2
  go_ret
  exact ⟨rfl, rfl⟩
set_option maxRecDepth 100000 in
set_option maxHeartbeats 8000000 in
theorem of1_stops (m : Nat) (hm : 2 ≤ m) (w0 : World) (dev : Int) (v : Value) (l : List TxS) (q1 q2 : Nat) (w : World) (hb0 : Below w0.heap.size w0 w) (h1 : w.cell? ⟨q1, 0, none⟩ = some v) (h2 : w.heap[q2]? = some (.cells #[.int .i64 dev] 3 (0, 0))) (ha : LRd w0 v l) (hl : l.length ≤ 1000000) :
    SeqStopsK Fence.wide m Tryz.prog 57 #[.pointer (some ⟨q1, 0, none⟩), .pointer (some ⟨q2, 0, none⟩)] (fun x : TxS => #[.agg #[.int .i64 x.dev, .int .i64 x.seq, .int .i64 x.time, .slice x.ad x.nd x.cd, .slice x.ao x.no x.co, .slice x.ae x.ne x.ce, .bool x.fm, .slice x.ah x.nh x.ch, .int .i64 x.note, .int .i64 x.whom, .int .i64 x.upto]]) (KpS w0.heap.size q2 (.cells #[.int .i64 dev] 3 (0, 0))) (fun ys => ys = devT dev l) (fun _ => True) l.length w := by
  intro lY J Jx W hW hJ hJx hY h0
  obtain ⟨ao, c, rfl, hnc, hcm, -, -⟩ := id ha.1
  obtain ⟨n, hln⟩ : ∃ n, l.length = n := ⟨_, rfl⟩
  have hq1 := World.block_lt_of_cell? _ _ h1
  have hq2 := (Array.getElem?_eq_some_iff.1 h2).1
  have k1 := cell_later hW h1
  have k2 : W.heap[q2]? = _ := (hW.block q2 hq2).trans h2
  have HA := Lib.hid ha
  have HLN := Lib.hid hln
  have HB0 : Hid (Below w0.heap.size w0 W) := hb0.trans (hW.mono hb0.size)
  have HK2 := Lib.hid k2
  have HJA := Lib.hid hJ
  have HY := Lib.hid hY
  have HJ0 := Lib.hid h0
  rw [hln] at hl hnc k1
  unfold maxLen at hcm
  clear h1 h2 ha hln hb0 hW hJ hJx hY h0 k2
  refine callsIn_of_wp Tryz.func57 rfl trivial ?_ rfl
  simp only [Tryz.ntmps57, List.size_toArray, List.length_cons, List.length_nil, Nat.reduceAdd, Nat.reduceSub, Array.replicate_succ, Array.replicate_zero, List.push_toArray, List.append_toArray, List.nil_append, List.cons_append]
  gi_wp2_with fail
  clear k1
  gi_loopw [8] (fun vi wr => ∃ k : Nat, k ≤ n ∧ vi = .int .i64 k ∧ Hid (J (devT dev (l.take k)) wr) ∧ Hid (Below w0.heap.size w0 wr) ∧ Hid (wr.heap[q2]? = some (.cells #[.int .i64 dev] 3 (0, 0)))) (fun vi _ => n - (intOf vi).toNat)
  case atStart => exact ⟨0, Nat.zero_le _, rfl, HJ0.out, HB0.out, HK2.out⟩
  case round =>
    obtain ⟨k, hk, rfl, hj, hbw, hk2⟩ := hrel
    rename World => wr
    have HBW := Lib.hid hbw.out
    by_cases hlt : k < n
    · have hkl : k < l.length := by have := HLN.out; omega
      obtain ⟨x, hx⟩ : ∃ x, l[k] = x := ⟨_, rfl⟩
      obtain ⟨b1, o1, x1, c0, c1, c2, c3, c4, c5, c6, c7, c8, c9, c10, _⟩ := rd_txs ((HA.out.later hbw.out).1) rfl k hkl hx
      rw [HLN.out] at x1
      have hnx := devT_next dev hkl hx
      have hbx := below_alloc wr (.cells #[.int .i64 x.dev, .int .i64 x.seq, .int .i64 x.time, .slice x.ad x.nd x.cd, .slice x.ao x.no x.co, .slice x.ae x.ne x.ce, .bool x.fm, .slice x.ah x.nh x.ch, .int .i64 x.note, .int .i64 x.whom, .int .i64 x.upto] 31)
      have bx : Bx (wr.alloc (.cells #[.int .i64 x.dev, .int .i64 x.seq, .int .i64 x.time, .slice x.ad x.nd x.cd, .slice x.ao x.no x.co, .slice x.ae x.ne x.ce, .bool x.fm, .slice x.ah x.nh x.ch, .int .i64 x.note, .int .i64 x.whom, .int .i64 x.upto] 31)) wr.heap.size #[.int .i64 x.dev, .int .i64 x.seq, .int .i64 x.time, .slice x.ad x.nd x.cd, .slice x.ao x.no x.co, .slice x.ae x.ne x.ce, .bool x.fm, .slice x.ah x.nh x.ch, .int .i64 x.note, .int .i64 x.whom, .int .i64 x.upto] 31 := bx_new rfl
      have b2 : Bx (wr.alloc (.cells #[.int .i64 x.dev, .int .i64 x.seq, .int .i64 x.time, .slice x.ad x.nd x.cd, .slice x.ao x.no x.co, .slice x.ae x.ne x.ce, .bool x.fm, .slice x.ah x.nh x.ch, .int .i64 x.note, .int .i64 x.whom, .int .i64 x.upto] 31)) q2 #[.int .i64 dev] 3 := bx_later hbx hk2.out
      have f0 := cell_of_box b2 0 rfl
      have e0 := cell_of_box bx 0 rfl
      have e1 := cell_of_box bx 1 rfl
      have e2 := cell_of_box bx 2 rfl
      have e3 := cell_of_box bx 3 rfl
      have e4 := cell_of_box bx 4 rfl
      have e5 := cell_of_box bx 5 rfl
      have e6 := cell_of_box bx 6 rfl
      have e7 := cell_of_box bx 7 rfl
      have e8 := cell_of_box bx 8 rfl
      have e9 := cell_of_box bx 9 rfl
      have e10 := cell_of_box bx 10 rfl
      have hJ1 : J (devT dev (l.take k)) (wr.alloc (.cells #[.int .i64 x.dev, .int .i64 x.seq, .int .i64 x.time, .slice x.ad x.nd x.cd, .slice x.ao x.no x.co, .slice x.ae x.ne x.ce, .bool x.fm, .slice x.ah x.nh x.ch, .int .i64 x.note, .int .i64 x.whom, .int .i64 x.upto] 31)) := HJA.out _ _ _ none hj.out (grown_of_below hbx) (fun r e => nomatch e)
      have hlen : (devT dev (l.take k)).length < l.length := by
        have h1 := List.length_filter_le (fun x : TxS => x.dev == dev) (l.take k)
        rw [List.length_take] at h1
        unfold devT
        omega
      have HJ1 := Lib.hid hJ1
      have HBX := Lib.hid hbx
      have HB2 := Lib.hid b2
      have HLEN := Lib.hid hlen
      clear hx hbx bx b2 hlen
      cases hp : (x.dev == dev)
      all_goals
        rw [hp] at hnx
        have HNX := Lib.hid hnx
        clear hnx
      · clear hJ1
        gi_wp2_with fail
        refine ⟨fun _ h => (by cases h), ?_⟩
        gi_wp2_with fail
        have HJ2 : Hid (J (devT dev (l.take (k + 1))) (wr.alloc (.cells #[.int .i64 x.dev, .int .i64 x.seq, .int .i64 x.time, .slice x.ad x.nd x.cd, .slice x.ao x.no x.co, .slice x.ae x.ne x.ce, .bool x.fm, .slice x.ah x.nh x.ch, .int .i64 x.note, .int .i64 x.whom, .int .i64 x.upto] 31))) := by
          rw [HNX.out]
          simp only [Bool.false_eq_true, if_false, List.append_nil]
          exact HJ1.out
        have HB3 := Lib.hid (below_then HBW.out HBX.out)
        go_roundw
        case rel => exact ⟨k + 1, by omega, by go_num, HJ2.out, HB3.out, HB2.out⟩
        case measure => simp [intOf]; omega
      · obtain ⟨fn, tmps, assign, body, hy, hR⟩ := HY.out _ x (wr.alloc (.cells #[.int .i64 x.dev, .int .i64 x.seq, .int .i64 x.time, .slice x.ad x.nd x.cd, .slice x.ao x.no x.co, .slice x.ae x.ne x.ce, .bool x.fm, .slice x.ah x.nh x.ch, .int .i64 x.note, .int .i64 x.whom, .int .i64 x.upto] 31)) hJ1 HLEN.out
        try dsimp only at hy
        have HB3 := Lib.hid (below_then HBW.out HBX.out)
        clear hJ1
        gi_wp2_with fail
        refine ⟨fun _ => by omega, ?_⟩
        refine hR.mono ?_
        rintro e W3 (⟨rfl, hJ3, hk3⟩ | ⟨rfl, hJx3⟩)
        · have HJ3 : Hid (J (devT dev (l.take (k + 1))) W3) := by rw [HNX.out]; exact hJ3
          have HB5 : Hid (Below w0.heap.size w0 W3) := HB3.out.trans hk3.1
          have HB6 : Hid (W3.heap[q2]? = some (.cells #[.int .i64 dev] 3 (0, 0))) := hk3.2 HB2.out
          clear hJ3 hk3
          gi_wp2_with fail
          go_roundw
          case rel => exact ⟨k + 1, by omega, by go_num, HJ3.out, HB5.out, HB6.out⟩
          case measure => simp [intOf]; omega
        · gi_wp2_with fail
          refine bodyPost_ret (results_none rfl _ _ _) rfl ?_
          exact ⟨⟨_, rfl⟩, .inr ⟨_, trivial, hJx3⟩⟩
    · have hkn : k = n := by omega
      subst hkn
      have hj2 := hj.out
      rw [List.take_of_length_le (by have := HLN.out; omega)] at hj2
      have HJ2 := Lib.hid hj2
      clear hj2
      gi_wp2_with fail
      go_end0
      exact ⟨⟨_, rfl⟩, .inl ⟨_, rfl, HJ2.out⟩⟩
/-- A device's transactions, each with the fact that it is one of them. -/
def devA (dev : Int) (l : List TxS) (k : Nat) : List {y : TxS // y ∈ devT dev l} := (devT dev l).attach.take (devT dev (l.take k)).length
theorem devT_split (dev : Int) (l : List TxS) (k : Nat) : devT dev l = devT dev (l.take k) ++ devT dev (l.drop k) := by unfold devT; rw [← List.filter_append, List.take_append_drop]
theorem devA_skip (dev : Int) {l : List TxS} {k : Nat} (hk : k < l.length) {x : TxS} (hx : l[k] = x) (hp : (x.dev == dev) = false) : devA dev l (k + 1) = devA dev l k := by
  unfold devA
  rw [devT_next dev hk hx, hp]; simp
theorem devA_take (dev : Int) {l : List TxS} {k : Nat} (hk : k < l.length) {x : TxS} (hx : l[k] = x) (hp : (x.dev == dev) = true) (hm : x ∈ devT dev l) : devA dev l (k + 1) = devA dev l k ++ [⟨x, hm⟩] := by
  unfold devA
  have hn := devT_next dev hk hx
  rw [hp, if_pos rfl] at hn
  have hs := devT_split dev l (k + 1)
  rw [hn] at hs
  have hlt : (devT dev (l.take k)).length < (devT dev l).length := by rw [hs]; simp only [List.length_append, List.length_cons, List.length_nil]; omega
  have hg : (devT dev l)[(devT dev (l.take k)).length]'hlt = x := by
    have h2 : (devT dev l)[(devT dev (l.take k)).length]? = some x := by rw [hs, List.append_assoc, List.getElem?_append_right (Nat.le_refl _)]; simp
    rw [List.getElem?_eq_getElem hlt] at h2
    exact Option.some.inj h2
  rw [hn, List.length_append, List.length_singleton, List.take_succ_eq_append_getElem (by simpa using hlt)]
  congr 2
  simp [hg]
theorem devA_len (dev : Int) {l : List TxS} {k : Nat} (hk : k < l.length) : (devA dev l k).length < l.length := by
  have h1 : (devT dev (l.take k)).length ≤ (l.take k).length := by unfold devT; exact List.length_filter_le _ _
  rw [List.length_take] at h1
  unfold devA
  rw [List.length_take]
  omega
theorem devA_all (dev : Int) (l : List TxS) {k : Nat} (hk : l.length ≤ k) : (devA dev l k).map Subtype.val = devT dev l := by
  unfold devA
  rw [List.take_of_length_le hk, List.take_of_length_le (by simp), List.attach_map_subtype_val]
set_option maxRecDepth 100000 in
set_option maxHeartbeats 8000000 in
theorem of1_stopsA (m : Nat) (hm : 2 ≤ m) (w0 : World) (dev : Int) (v : Value) (l : List TxS) (q1 q2 : Nat) (w : World) (hb0 : Below w0.heap.size w0 w) (h1 : w.cell? ⟨q1, 0, none⟩ = some v) (h2 : w.heap[q2]? = some (.cells #[.int .i64 dev] 3 (0, 0))) (ha : LRd w0 v l) (hl : l.length ≤ 1000000) :
    SeqStopsK Fence.wide m Tryz.prog 57 #[.pointer (some ⟨q1, 0, none⟩), .pointer (some ⟨q2, 0, none⟩)] (fun x : {y : TxS // y ∈ devT dev l} => #[.agg #[.int .i64 x.1.dev, .int .i64 x.1.seq, .int .i64 x.1.time, .slice x.1.ad x.1.nd x.1.cd, .slice x.1.ao x.1.no x.1.co, .slice x.1.ae x.1.ne x.1.ce, .bool x.1.fm, .slice x.1.ah x.1.nh x.1.ch, .int .i64 x.1.note, .int .i64 x.1.whom, .int .i64 x.1.upto]]) (KpS w0.heap.size q2 (.cells #[.int .i64 dev] 3 (0, 0))) (fun ys => ys.map Subtype.val = devT dev l) (fun _ => True) l.length w := by
  intro lY J Jx W hW hJ hJx hY h0
  obtain ⟨ao, c, rfl, hnc, hcm, -, -⟩ := id ha.1
  obtain ⟨n, hln⟩ : ∃ n, l.length = n := ⟨_, rfl⟩
  have hq1 := World.block_lt_of_cell? _ _ h1
  have hq2 := (Array.getElem?_eq_some_iff.1 h2).1
  have k1 := cell_later hW h1
  have k2 : W.heap[q2]? = _ := (hW.block q2 hq2).trans h2
  have HA := Lib.hid ha
  have HLN := Lib.hid hln
  have HB0 : Hid (Below w0.heap.size w0 W) := hb0.trans (hW.mono hb0.size)
  have HK2 := Lib.hid k2
  have HJA := Lib.hid hJ
  have HY := Lib.hid hY
  have HJ0 := Lib.hid h0
  rw [hln] at hl hnc k1
  unfold maxLen at hcm
  clear h1 h2 ha hln hb0 hW hJ hJx hY h0 k2
  refine callsIn_of_wp Tryz.func57 rfl trivial ?_ rfl
  simp only [Tryz.ntmps57, List.size_toArray, List.length_cons, List.length_nil, Nat.reduceAdd, Nat.reduceSub, Array.replicate_succ, Array.replicate_zero, List.push_toArray, List.append_toArray, List.nil_append, List.cons_append]
  gi_wp2_with fail
  clear k1
  gi_loopw [8] (fun vi wr => ∃ k : Nat, k ≤ n ∧ vi = .int .i64 k ∧ Hid (J (devA dev l k) wr) ∧ Hid (Below w0.heap.size w0 wr) ∧ Hid (wr.heap[q2]? = some (.cells #[.int .i64 dev] 3 (0, 0)))) (fun vi _ => n - (intOf vi).toNat)
  case atStart => exact ⟨0, Nat.zero_le _, rfl, HJ0.out, HB0.out, HK2.out⟩
  case round =>
    obtain ⟨k, hk, rfl, hj, hbw, hk2⟩ := hrel
    rename World => wr
    have HBW := Lib.hid hbw.out
    by_cases hlt : k < n
    · have hkl : k < l.length := by have := HLN.out; omega
      obtain ⟨x, hx⟩ : ∃ x, l[k] = x := ⟨_, rfl⟩
      obtain ⟨b1, o1, x1, c0, c1, c2, c3, c4, c5, c6, c7, c8, c9, c10, _⟩ := rd_txs ((HA.out.later hbw.out).1) rfl k hkl hx
      rw [HLN.out] at x1
      have HXX := Lib.hid hx
      have hbx := below_alloc wr (.cells #[.int .i64 x.dev, .int .i64 x.seq, .int .i64 x.time, .slice x.ad x.nd x.cd, .slice x.ao x.no x.co, .slice x.ae x.ne x.ce, .bool x.fm, .slice x.ah x.nh x.ch, .int .i64 x.note, .int .i64 x.whom, .int .i64 x.upto] 31)
      have bx : Bx (wr.alloc (.cells #[.int .i64 x.dev, .int .i64 x.seq, .int .i64 x.time, .slice x.ad x.nd x.cd, .slice x.ao x.no x.co, .slice x.ae x.ne x.ce, .bool x.fm, .slice x.ah x.nh x.ch, .int .i64 x.note, .int .i64 x.whom, .int .i64 x.upto] 31)) wr.heap.size #[.int .i64 x.dev, .int .i64 x.seq, .int .i64 x.time, .slice x.ad x.nd x.cd, .slice x.ao x.no x.co, .slice x.ae x.ne x.ce, .bool x.fm, .slice x.ah x.nh x.ch, .int .i64 x.note, .int .i64 x.whom, .int .i64 x.upto] 31 := bx_new rfl
      have b2 : Bx (wr.alloc (.cells #[.int .i64 x.dev, .int .i64 x.seq, .int .i64 x.time, .slice x.ad x.nd x.cd, .slice x.ao x.no x.co, .slice x.ae x.ne x.ce, .bool x.fm, .slice x.ah x.nh x.ch, .int .i64 x.note, .int .i64 x.whom, .int .i64 x.upto] 31)) q2 #[.int .i64 dev] 3 := bx_later hbx hk2.out
      have f0 := cell_of_box b2 0 rfl
      have e0 := cell_of_box bx 0 rfl
      have e1 := cell_of_box bx 1 rfl
      have e2 := cell_of_box bx 2 rfl
      have e3 := cell_of_box bx 3 rfl
      have e4 := cell_of_box bx 4 rfl
      have e5 := cell_of_box bx 5 rfl
      have e6 := cell_of_box bx 6 rfl
      have e7 := cell_of_box bx 7 rfl
      have e8 := cell_of_box bx 8 rfl
      have e9 := cell_of_box bx 9 rfl
      have e10 := cell_of_box bx 10 rfl
      have hJ1 : J (devA dev l k) (wr.alloc (.cells #[.int .i64 x.dev, .int .i64 x.seq, .int .i64 x.time, .slice x.ad x.nd x.cd, .slice x.ao x.no x.co, .slice x.ae x.ne x.ce, .bool x.fm, .slice x.ah x.nh x.ch, .int .i64 x.note, .int .i64 x.whom, .int .i64 x.upto] 31)) := HJA.out _ _ _ none hj.out (grown_of_below hbx) (fun r e => nomatch e)
      have hlen : (devA dev l k).length < l.length := by
        exact devA_len dev hkl
      have HJ1 := Lib.hid hJ1
      have HBX := Lib.hid hbx
      have HB2 := Lib.hid b2
      have HLEN := Lib.hid hlen
      clear hx hbx bx b2 hlen
      cases hp : (x.dev == dev)
      · have HNX := Lib.hid (devA_skip dev hkl HXX.out hp)
        clear hJ1
        gi_wp2_with fail
        refine ⟨fun _ h => (by cases h), ?_⟩
        gi_wp2_with fail
        have HJ2 : Hid (J (devA dev l (k + 1)) (wr.alloc (.cells #[.int .i64 x.dev, .int .i64 x.seq, .int .i64 x.time, .slice x.ad x.nd x.cd, .slice x.ao x.no x.co, .slice x.ae x.ne x.ce, .bool x.fm, .slice x.ah x.nh x.ch, .int .i64 x.note, .int .i64 x.whom, .int .i64 x.upto] 31))) := by
          rw [HNX.out]
          exact HJ1.out
        have HB3 := Lib.hid (below_then HBW.out HBX.out)
        go_roundw
        case rel => exact ⟨k + 1, by omega, by go_num, HJ2.out, HB3.out, HB2.out⟩
        case measure => simp [intOf]; omega
      · have hxm : x ∈ devT dev l := List.mem_filter.2 ⟨HXX.out ▸ List.getElem_mem hkl, hp⟩
        have HNX := Lib.hid (devA_take dev hkl HXX.out hp hxm)
        obtain ⟨fn, tmps, assign, body, hy, hR⟩ := HY.out _ ⟨x, hxm⟩ (wr.alloc (.cells #[.int .i64 x.dev, .int .i64 x.seq, .int .i64 x.time, .slice x.ad x.nd x.cd, .slice x.ao x.no x.co, .slice x.ae x.ne x.ce, .bool x.fm, .slice x.ah x.nh x.ch, .int .i64 x.note, .int .i64 x.whom, .int .i64 x.upto] 31)) hJ1 HLEN.out
        try dsimp only at hy
        have HB3 := Lib.hid (below_then HBW.out HBX.out)
        clear hJ1
        gi_wp2_with fail
        refine ⟨fun _ => by omega, ?_⟩
        refine hR.mono ?_
        rintro e W3 (⟨rfl, hJ3, hk3⟩ | ⟨rfl, hJx3⟩)
        · have HJ3 : Hid (J (devA dev l (k + 1)) W3) := by rw [HNX.out]; exact hJ3
          have HB5 : Hid (Below w0.heap.size w0 W3) := HB3.out.trans hk3.1
          have HB6 : Hid (W3.heap[q2]? = some (.cells #[.int .i64 dev] 3 (0, 0))) := hk3.2 HB2.out
          clear hJ3 hk3
          gi_wp2_with fail
          go_roundw
          case rel => exact ⟨k + 1, by omega, by go_num, HJ3.out, HB5.out, HB6.out⟩
          case measure => simp [intOf]; omega
        · gi_wp2_with fail
          refine bodyPost_ret (results_none rfl _ _ _) rfl ?_
          exact ⟨⟨_, rfl⟩, .inr ⟨_, trivial, hJx3⟩⟩
    · have hkn : k = n := by omega
      subst hkn
      have hj2 := hj.out
      have HJ2 := Lib.hid hj2
      clear hj2
      gi_wp2_with fail
      go_end0
      exact ⟨⟨_, rfl⟩, .inl ⟨_, devA_all dev l (by have := HLN.out; omega), HJ2.out⟩⟩
end Go.Proofs.YtnolbabpkhdpmaaGreat
/- Layer 20 (past): word, Bound. (printed by tools/gen_yw.py) -/
namespace Go.Proofs.YtnolbabpkhdpmaaGreat
open Go.RowKit Go.Sort Go.Shelf Go.BigFrame
attribute [local go_sem] Oper.semAt_some

/-- The last word of device 1 on a device. -/
def wordF (whom : Int) (o : Option TxS) (x : TxS) : Option TxS :=
  if x.note = 0 then o else if x.whom ≠ whom then o else match o with
  | none => some x
  | some y => if x.seq ≤ y.seq then some y else some x
def wordL (whom : Int) (l : List TxS) : Option TxS := l.foldl (wordF whom) none
def wordT (l : List TxS) (whom : Int) : Option TxS := wordL whom (devT 1 l)
theorem wordL_snoc (whom : Int) (l : List TxS) (x : TxS) : wordL whom (l ++ [x]) = wordF whom (wordL whom l) x := by unfold wordL; rw [List.foldl_append]; rfl
theorem bx_setc {W : World} {q : Nat} {cs : Array Value} {T : TypeId} (h : Bx W q cs T) (j : Nat) (v : Value) : Bx (W.setCell ⟨q, j, none⟩ v) q (cs.setIfInBounds j v) T := by
  obtain ⟨hlt, hk⟩ := Array.getElem?_eq_some_iff.1 h
  show (W.heap.modify q _)[q]? = _
  rw [Array.getElem?_eq_getElem (by rw [Array.size_modify]; exact hlt), Array.getElem_modify_self, hk]
  rfl
theorem bx_seto {W : World} {q q' : Nat} {cs : Array Value} {T : TypeId} (h : Bx W q cs T) (hne : q' ≠ q) (j : Nat) (v : Value) : Bx (W.setCell ⟨q', j, none⟩ v) q cs T := by
  show (W.heap.modify q' _)[q]? = _
  rw [Array.getElem?_modify, if_neg hne]; exact h
/-- A transaction stored into a box. -/
abbrev stT (W : World) (q : Nat) (x : TxS) : World := (((((((((((W.setCell ⟨q, 0, none⟩ (.int .i64 x.dev)).setCell ⟨q, 1, none⟩ (.int .i64 x.seq)).setCell ⟨q, 2, none⟩ (.int .i64 x.time)).setCell ⟨q, 3, none⟩ (.slice x.ad x.nd x.cd)).setCell ⟨q, 4, none⟩ (.slice x.ao x.no x.co)).setCell ⟨q, 5, none⟩ (.slice x.ae x.ne x.ce)).setCell ⟨q, 6, none⟩ (.bool x.fm)).setCell ⟨q, 7, none⟩ (.slice x.ah x.nh x.ch)).setCell ⟨q, 8, none⟩ (.int .i64 x.note)).setCell ⟨q, 9, none⟩ (.int .i64 x.whom)).setCell ⟨q, 10, none⟩ (.int .i64 x.upto))
theorem stT_self {W : World} {q : Nat} {cs : Array Value} {T : TypeId} (h : Bx W q cs T) (hs : cs.size = 11) (x : TxS) : Bx (stT W q x) q #[.int .i64 x.dev, .int .i64 x.seq, .int .i64 x.time, .slice x.ad x.nd x.cd, .slice x.ao x.no x.co, .slice x.ae x.ne x.ce, .bool x.fm, .slice x.ah x.nh x.ch, .int .i64 x.note, .int .i64 x.whom, .int .i64 x.upto] T := by
  obtain ⟨l⟩ := cs
  match l, hs with
  | [u0, u1, u2, u3, u4, u5, u6, u7, u8, u9, u10], _ =>
    have h' := bx_setc (bx_setc (bx_setc (bx_setc (bx_setc (bx_setc (bx_setc (bx_setc (bx_setc (bx_setc (bx_setc h 0 (.int .i64 x.dev)) 1 (.int .i64 x.seq)) 2 (.int .i64 x.time)) 3 (.slice x.ad x.nd x.cd)) 4 (.slice x.ao x.no x.co)) 5 (.slice x.ae x.ne x.ce)) 6 (.bool x.fm)) 7 (.slice x.ah x.nh x.ch)) 8 (.int .i64 x.note)) 9 (.int .i64 x.whom)) 10 (.int .i64 x.upto)
    simp only [List.setIfInBounds_toArray, List.set_cons_zero, List.set_cons_succ] at h'
    exact h'
theorem stT_other {W : World} {q r : Nat} {cs : Array Value} {T : TypeId} (h : Bx W r cs T) (hne : q ≠ r) (x : TxS) : Bx (stT W q x) r cs T :=
  bx_seto (bx_seto (bx_seto (bx_seto (bx_seto (bx_seto (bx_seto (bx_seto (bx_seto (bx_seto (bx_seto h hne _ _) hne _ _) hne _ _) hne _ _) hne _ _) hne _ _) hne _ _) hne _ _) hne _ _) hne _ _) hne _ _
theorem stT_keeps (W : World) (q : Nat) (x : TxS) : KeepsOthers W (stT W q x) :=
  ((((((((((KeepsOthers.setCell _ _ _).trans (KeepsOthers.setCell _ _ _)).trans (KeepsOthers.setCell _ _ _)).trans (KeepsOthers.setCell _ _ _)).trans (KeepsOthers.setCell _ _ _)).trans (KeepsOthers.setCell _ _ _)).trans (KeepsOthers.setCell _ _ _)).trans (KeepsOthers.setCell _ _ _)).trans (KeepsOthers.setCell _ _ _)).trans (KeepsOthers.setCell _ _ _)).trans (KeepsOthers.setCell _ _ _)
theorem stT_below {B : Nat} {w W : World} (h : Below B w W) {q : Nat} (hq : B ≤ q) (x : TxS) : Below B w (stT W q x) :=
  ((((((((((Below.setCell h (p := ⟨q, 0, none⟩) hq _).setCell (p := ⟨q, 1, none⟩) hq _).setCell (p := ⟨q, 2, none⟩) hq _).setCell (p := ⟨q, 3, none⟩) hq _).setCell (p := ⟨q, 4, none⟩) hq _).setCell (p := ⟨q, 5, none⟩) hq _).setCell (p := ⟨q, 6, none⟩) hq _).setCell (p := ⟨q, 7, none⟩) hq _).setCell (p := ⟨q, 8, none⟩) hq _).setCell (p := ⟨q, 9, none⟩) hq _).setCell (p := ⟨q, 10, none⟩) hq _
theorem bx_drewT {W : World} {q : Nat} {cs : Array Value} {T : TypeId} (h : Bx W q cs T) : Bx W.drew q cs T := h
theorem keeps_drewT {A B : World} (h : KeepsOthers A B) : KeepsOthers A B.drew := ⟨h.size, h.same⟩
theorem stT_frozen (W : World) (q : Nat) (x : TxS) (a : Addr) : (stT W q x).frozen? a = W.frozen? a := by simp only [stT, World.frozen?_setCell]
theorem stepR_scope {P : Program} {b : Frame} {a : Act} {k : List Item} {cs : List Frame} {w : World} {c : Code} : step P (lone (b.atR a (.code (.scope c) :: k)) cs w) = .next (lone (b.atR a (.code c :: .inScope c :: k)) cs w) :=
  step_lone_go (by simp [stepG, stepG.exec, Frame.atR])
theorem stepR_inScope {P : Program} {b : Frame} {a : Act} {k : List Item} {cs : List Frame} {w : World} {c : Code} : step P (lone (b.atR a (.inScope c :: k)) cs w) = .next (lone (b.atR a k) cs w) :=
  step_lone_go (by simp [stepG, stepG.exec, Frame.atR])
/-- A scope through which the run goes without a goto, inside a fence. -/
theorem wpIn_scope_straight {F : Fence} {n : Nat} {P : Program} {Q : Exit → Act → World → Prop} {a : Act} {w : World} {c : Code} (h : c.wpIn F n P (Exit.noGoto Q) a w) : (Code.scope c).wpIn F n P Q a w := by
  intro b k cs hro hb hr
  have h0 : (lone (b.atR a (.code (.scope c) :: k)) cs w).fenced P F := fenced_calm hb hr rfl
  obtain ⟨e, a₁, w₁, hq, harr⟩ := h b (.inScope c :: k) cs hro hb hr
  cases e with
  | normal => exact ⟨.normal, a₁, w₁, hq, .head h0 stepR_scope (StepsIn.trans harr (.one (fenced_calm hb hr rfl) stepR_inScope))⟩
  | exit id =>
    have hx : exitTo id (.inScope c :: k) = exitTo id k := by simp [exitTo]
    exact ⟨.exit id, a₁, w₁, hq, fun k' hk => .head h0 stepR_scope (harr.1 k' (by rw [hx]; exact hk)),
      fun hr' hk => let ⟨k₁, h1, h2⟩ := harr.2 hr' (by rw [hx]; exact hk); ⟨k₁, h1, .head h0 stepR_scope h2⟩⟩
  | goto l => exact hq.elim
  | ret => exact ⟨_, a₁, w₁, hq, .of_steps (.one h0 stepR_scope) harr⟩
  | panic ch => exact ⟨_, a₁, w₁, hq, .of_steps (.one h0 stepR_scope) harr⟩
  | outgrown => exact ⟨_, a₁, w₁, hq, .of_steps (.one h0 stepR_scope) harr⟩
def WordI (w : World) (whom : Int) (n0 q2 : Nat) (pre : List TxS) (W : World) : Prop :=
  (∃ d : TxS, d = (wordL whom pre).getD default ∧ Bx W (n0 + 1 + 1) #[.int .i64 d.dev, .int .i64 d.seq, .int .i64 d.time, .slice d.ad d.nd d.cd, .slice d.ao d.no d.co, .slice d.ae d.ne d.ce, .bool d.fm, .slice d.ah d.nh d.ch, .int .i64 d.note, .int .i64 d.whom, .int .i64 d.upto] 31 ∧ Bx W (n0 + 1 + 1 + 1) #[.bool (wordL whom pre).isSome] 4) ∧ Below n0 w W ∧ W.heap[q2]? = some (.cells #[.int .i64 1] 3 (0, 0)) ∧ Bx W n0 #[.int .i64 whom] 3 ∧ Bx W (n0 + 1) #[.int .i64 0, .int .i64 0, .int .i64 0, .slice none 0 0, .slice none 0 0, .slice none 0 0, .bool false, .slice none 0 0, .int .i64 0, .int .i64 0, .int .i64 0] 31
theorem WordI.own {w : World} {whom : Int} {n0 q2 : Nat} (hn : w.heap.size = n0) (B : Nat) (hB : n0 ≤ B) : OwnFrom B (WordI w whom n0 q2) := by
  intro s W W' row hs hg hr
  obtain ⟨⟨d, h1, h2, h3⟩, h4, h5, h6, h7⟩ := hs
  have hr' := fun r e => (hr r e).2
  subst hn
  exact ⟨⟨d, h1, bx_kept h2 hg hr', bx_kept h3 hg hr'⟩, h4.grown hg h4.size (fun k hk => Nat.le_trans hB (hr k hk).1), bx_kept h5 hg hr', bx_kept h6 hg hr', bx_kept h7 hg hr'⟩
def WordP (w : World) (o : Option TxS) (e : Ending) (w' : World) : Prop := ∃ d : TxS, d = o.getD default ∧ e = .returned (.tuple #[.agg #[.int .i64 d.dev, .int .i64 d.seq, .int .i64 d.time, .slice d.ad d.nd d.cd, .slice d.ao d.no d.co, .slice d.ae d.ne d.ce, .bool d.fm, .slice d.ah d.nh d.ch, .int .i64 d.note, .int .i64 d.whom, .int .i64 d.upto], .bool o.isSome]) ∧ Below w.heap.size w w'
set_option maxRecDepth 100000 in
set_option maxHeartbeats 8000000 in
theorem word_any {vl : Value} {l : List TxS} {whom : Int} (w : World) (hl : LRd w vl l) (hn : l.length ≤ 1000000) :
    Calls Tryz.prog 30 #[vl, .int .i64 whom] w (WordP w (wordT l whom)) := by
  obtain ⟨la, lc, rfl, hnc, hcm, -, -⟩ := id hl.1
  unfold maxLen at hcm
  obtain ⟨n, hln⟩ : ∃ n, l.length = n := ⟨_, rfl⟩
  have HL := Lib.hid hl
  have HLN := Lib.hid hln
  have HN := Lib.hid hn
  rw [hln] at hnc ⊢
  obtain ⟨n0, hn0⟩ : ∃ n0, w.heap.size = n0 := ⟨_, rfl⟩
  obtain ⟨w1, hw1⟩ : ∃ w1, (((w.alloc (.cells #[.int .i64 whom] 3)).alloc (.cells #[.int .i64 0, .int .i64 0, .int .i64 0, .slice none 0 0, .slice none 0 0, .slice none 0 0, .bool false, .slice none 0 0, .int .i64 0, .int .i64 0, .int .i64 0] 31)).alloc (.cells #[.int .i64 0, .int .i64 0, .int .i64 0, .slice none 0 0, .slice none 0 0, .slice none 0 0, .bool false, .slice none 0 0, .int .i64 0, .int .i64 0, .int .i64 0] 31)).alloc (.cells #[.bool false] 4) = w1 := ⟨_, rfl⟩
  have hb1 : Below w.heap.size w w1 := by rw [← hw1]; exact below_alloc_then (below_alloc_then (below_alloc_then (below_alloc _ _)))
  have hsz : w1.heap.size = n0 + 4 := by rw [← hw1, ← hn0]; simp
  have b0 : Bx w1 n0 #[.int .i64 whom] 3 := by rw [← hw1]; exact bx_later (below_alloc_then (below_alloc_then (below_alloc _ _))) (bx_new hn0.symm)
  have b1 : Bx w1 (n0 + 1) #[.int .i64 0, .int .i64 0, .int .i64 0, .slice none 0 0, .slice none 0 0, .slice none 0 0, .bool false, .slice none 0 0, .int .i64 0, .int .i64 0, .int .i64 0] 31 := by rw [← hw1]; exact bx_later (below_alloc_then (below_alloc _ _)) (bx_new (by simp [hn0]))
  have b2 : Bx w1 (n0 + 1 + 1) #[.int .i64 0, .int .i64 0, .int .i64 0, .slice none 0 0, .slice none 0 0, .slice none 0 0, .bool false, .slice none 0 0, .int .i64 0, .int .i64 0, .int .i64 0] 31 := by rw [← hw1]; exact bx_later (below_alloc _ _) (bx_new (by simp [hn0]))
  have b3 : Bx w1 (n0 + 1 + 1 + 1) #[.bool false] 4 := by rw [← hw1]; exact bx_new (by simp [hn0])
  obtain ⟨w3, hw3⟩ : ∃ w3, (w1.alloc (.cells #[.slice la n lc] 24)).alloc (.cells #[.int .i64 1] 3) = w3 := ⟨_, rfl⟩
  have hb3 : Below w1.heap.size w1 w3 := by rw [← hw3]; exact below_alloc_then (below_alloc _ _)
  have hsz3 : w3.heap.size = n0 + 6 := by rw [← hw3]; simp [hsz]
  have hQ1 : Bx w3 (n0 + 4) #[.slice la n lc] 24 := by rw [← hw3]; exact bx_later (below_alloc _ _) (bx_new hsz.symm)
  have hQ2 : Bx w3 (n0 + 5) #[.int .i64 1] 3 := by rw [← hw3]; exact bx_new (by simp [hsz])
  have HW1 := Lib.hid hw1
  have HW3 := Lib.hid hw3
  have HN0 := Lib.hid hn0
  have HSZ := Lib.hid hsz
  have HSZ3 := Lib.hid hsz3
  have HB3 := Lib.hid (below_then hb1 hb3)
  have HQ1 := Lib.hid hQ1
  have HQ2 := Lib.hid hQ2
  have B0 := Lib.hid (bx_later hb3 b0)
  have B1 := Lib.hid (bx_later hb3 b1)
  have B2 := Lib.hid (bx_later hb3 b2)
  have B3 := Lib.hid (bx_later hb3 b3)
  clear hl hln hn hw1 hw3 hb1 hsz b0 b1 b2 b3 hb3 hsz3 hQ1 hQ2
  refine (callsIn_wide (n := 6)).1 ?_
  refine callsIn_of_wp_marks Tryz.func30 rfl trivial ?_ rfl
  simp only [Tryz.ntmps30, List.size_toArray, List.length_cons, List.length_nil, Nat.reduceAdd, Nat.reduceSub, Array.replicate_succ, Array.replicate_zero, List.push_toArray, List.append_toArray, List.nil_append, List.cons_append]
  gi_wp2_with fail
  refine wpIn_scope_straight ?_
  gi_wp2_with fail
  rw [HW1.out]
  refine wpIn_label ?_
  gi_wp2_with fail
  refine ⟨trivial, ?_⟩
  refine (callsIn_wide.2 (of_any la n lc 1 _)).mono ?_
  rintro e w' ⟨rfl, rfl⟩
  gi_wp2_with fail
  rw [HW3.out, HSZ.out]
  refine wpIn_rangeFunc_ownH (F := Fence.wide) rfl (by decide) (gf := 57) (lb := #[.pointer (some ⟨n0 + 4, 0, none⟩), .pointer (some ⟨n0 + 4 + 1, 0, none⟩)]) rfl trivial (enters_of Tryz.func57 (by kernel_rfl) rfl)
    (of1_stops 5 (by decide) w 1 (.slice la n lc) l (n0 + 4) (n0 + 4 + 1) w3 HB3.out (cell_of_box HQ1.out 0 rfl) HQ2.out (HLN.out ▸ HL.out) HN.out) (fun h k => h.t k) (KpS.b (by have := HN0.out; have := HSZ3.out; omega) (by have := HSZ3.out; omega)) (Below.refl _ w3) (fun _ => rfl)
    (WordI w whom n0 (n0 + 4 + 1)) (fun _ _ _ => False) (WordI.own HN0.out _ (by have := HSZ3.out; omega)) (fun _ _ _ _ _ hs _ _ => hs)
    ⟨⟨default, rfl, B2.out, B3.out⟩, HN0.out ▸ HB3.out, HQ2.out, B0.out, B1.out⟩
    (fun x a' W => ∃ q, Bx W q #[.int .i64 x.dev, .int .i64 x.seq, .int .i64 x.time, .slice x.ad x.nd x.cd, .slice x.ao x.no x.co, .slice x.ae x.ne x.ce, .bool x.fm, .slice x.ah x.nh x.ch, .int .i64 x.note, .int .i64 x.whom, .int .i64 x.upto] 31 ∧ a' = { tmps := #[.slice la n lc, .int .i64 whom, undef, .pointer (some ⟨n0, 0, none⟩), .pointer (some ⟨n0 + 1, 0, none⟩), .bool false, .pointer (some ⟨n0 + 1 + 1, 0, none⟩), .pointer (some ⟨n0 + 1 + 1 + 1, 0, none⟩), .pointer (some ⟨q, 0, none⟩), .slice la n lc, .func (.func 57) #[] #[.pointer (some ⟨n0 + 4, 0, none⟩), .pointer (some ⟨n0 + 4 + 1, 0, none⟩)], .agg #[.int .i64 x.dev, .int .i64 x.seq, .int .i64 x.time, .slice x.ad x.nd x.cd, .slice x.ao x.no x.co, .slice x.ae x.ne x.ce, .bool x.fm, .slice x.ah x.nh x.ch, .int .i64 x.note, .int .i64 x.whom, .int .i64 x.upto], undef, undef, undef, undef, undef, undef, undef, undef, undef, undef, undef, undef, undef, undef, undef, undef, undef, undef, undef], defers := [] })
    (fun x a' _ X Y row hs hg hr => by obtain ⟨q, h1, h2⟩ := hs; exact ⟨q, bx_kept h1 hg (fun r e => (hr r e).2), h2⟩)
    ?assign ?body ?done ?stop
  case assign =>
    rintro l' pre x W K ⟨⟨d, h1, h2, h3⟩, h4, h5, h6, h7⟩ hK
    gi_wp2_with fail
    have hszW : n0 ≤ W.heap.size := HN0.out ▸ h4.size
    have ha := below_alloc W (.cells #[.int .i64 x.dev, .int .i64 x.seq, .int .i64 x.time, .slice x.ad x.nd x.cd, .slice x.ao x.no x.co, .slice x.ae x.ne x.ce, .bool x.fm, .slice x.ah x.nh x.ch, .int .i64 x.note, .int .i64 x.whom, .int .i64 x.upto] 31)
    exact hK _ _ ((KeepsOthers.alloc _ _).from _) ⟨(HN0.out ▸ (Below.refl n0 W).alloc hszW _), fun e => (Below.heap_alloc W _ _ (Array.getElem?_eq_some_iff.1 e).1).trans e⟩ ⟨⟨d, h1, bx_later ha h2, bx_later ha h3⟩, h4.alloc hszW _, bx_later ha h5, bx_later ha h6, bx_later ha h7⟩ ⟨W.heap.size, bx_new rfl, rfl⟩
  case body =>
    rintro l' pre x a' W hl' ⟨r, hr⟩ ⟨⟨d, h1, h2, h3⟩, h4, h5, h6, h7⟩ ⟨q, hX, rfl⟩ hlt
    have e0 := cell_of_box hX 0 rfl
    have e1 := cell_of_box hX 1 rfl
    have e2 := cell_of_box hX 2 rfl
    have e3 := cell_of_box hX 3 rfl
    have e4 := cell_of_box hX 4 rfl
    have e5 := cell_of_box hX 5 rfl
    have e6 := cell_of_box hX 6 rfl
    have e7 := cell_of_box hX 7 rfl
    have e8 := cell_of_box hX 8 rfl
    have e9 := cell_of_box hX 9 rfl
    have e10 := cell_of_box hX 10 rfl
    have g0 := cell_of_box h6 0 rfl
    have d0 := cell_of_box h2 0 rfl
    have d1 := cell_of_box h2 1 rfl
    have d2 := cell_of_box h2 2 rfl
    have d3 := cell_of_box h2 3 rfl
    have d4 := cell_of_box h2 4 rfl
    have d5 := cell_of_box h2 5 rfl
    have d6 := cell_of_box h2 6 rfl
    have d7 := cell_of_box h2 7 rfl
    have d8 := cell_of_box h2 8 rfl
    have d9 := cell_of_box h2 9 rfl
    have d10 := cell_of_box h2 10 rfl
    have t0 := cell_of_box h3 0 rfl
    have fz := fun j => frozen_of_box h2 j
    have ft := frozen_of_box h3 0
    have f0 := fz 0
    have f1 := fz 1
    have f2 := fz 2
    have f3 := fz 3
    have f4 := fz 4
    have f5 := fz 5
    have f6 := fz 6
    have f7 := fz 7
    have f8 := fz 8
    have f9 := fz 9
    have f10 := fz 10
    clear fz hX hr hlt hl'
    have hE : wordL whom (pre ++ [x]) = wordF whom (wordL whom pre) x := wordL_snoc whom pre x
    by_cases c1 : x.note = 0
    · have HE : Hid (wordL whom (pre ++ [x]) = wordL whom pre) := by show _ = _; rw [hE]; unfold wordF; rw [if_pos c1]
      have c1' : (x.note == 0) = true := by simp [c1]
      clear hE c1
      gi_wp2_with fail
      refine ⟨(KeepsOthers.refl _).from _, ⟨Below.refl _ _, fun e => e⟩, ?_⟩
      show WordI _ _ _ _ _ _
      exact ⟨⟨d, by rw [HE.out]; exact h1, h2, by rw [HE.out]; exact h3⟩, h4, h5, h6, h7⟩
    have c1' : (x.note == 0) = false := by simp [c1]
    by_cases c2 : x.whom = whom
    case neg =>
      have HE : Hid (wordL whom (pre ++ [x]) = wordL whom pre) := by show _ = _; rw [hE]; unfold wordF; rw [if_neg c1, if_pos c2]
      have c2' : (x.whom != whom) = true := by simp [c2]
      clear hE c1 c2
      gi_wp2_with fail
      refine ⟨(KeepsOthers.refl _).from _, ⟨Below.refl _ _, fun e => e⟩, ?_⟩
      show WordI _ _ _ _ _ _
      exact ⟨⟨d, by rw [HE.out]; exact h1, h2, by rw [HE.out]; exact h3⟩, h4, h5, h6, h7⟩
    have c2' : (x.whom != whom) = false := by simp [c2]
    cases hw : wordL whom pre with
    | none =>
      have HE : Hid (wordL whom (pre ++ [x]) = some x) := by show _ = _; rw [hE]; unfold wordF; rw [if_neg c1, if_neg (by simp [c2]), hw]
      have tt : W.cell? ⟨n0 + 1 + 1 + 1, 0, none⟩ = some (.bool false) := by rw [t0, hw]; rfl
      clear hE c1 c2 t0
      gi_wp2_with fail
      clear f0 f1 f2 f3 f4 f5 f6 f7 f8 f9 f10 ft tt g0
      have S3 := stT_other h3 (q := n0 + 1 + 1) (by omega) x
      have S2 := bx_seto (stT_self h2 rfl x) (q' := n0 + 1 + 1 + 1) (by omega) 0 (.bool true)
      have S3' := bx_setc S3 0 (.bool true)
      have hn := HN0.out
      refine ⟨((stT_keeps W (n0 + 1 + 1) x).trans (KeepsOthers.setCell _ _ _)).from _, ⟨?_, fun e => bx_seto (stT_other e (q := n0 + 1 + 1) (by omega) x) (by omega) _ _⟩, ?_⟩
      · exact (stT_below (Below.refl _ W) (q := n0 + 1 + 1) (by omega) x).setCell (p := ⟨n0 + 1 + 1 + 1, 0, none⟩) (by show _ ≤ n0 + 1 + 1 + 1; omega) _
      · refine ⟨⟨x, by rw [HE.out]; rfl, S2, by rw [HE.out]; exact S3'⟩, (stT_below h4 (q := n0 + 1 + 1) (by omega) x).setCell (p := ⟨n0 + 1 + 1 + 1, 0, none⟩) (by show _ ≤ n0 + 1 + 1 + 1; omega) _, ?_, ?_, ?_⟩
        · exact bx_seto (stT_other h5 (q := n0 + 1 + 1) (by omega) x) (by omega) _ _
        · exact bx_seto (stT_other h6 (q := n0 + 1 + 1) (by omega) x) (by omega) _ _
        · exact bx_seto (stT_other h7 (q := n0 + 1 + 1) (by omega) x) (by omega) _ _
    | some y =>
      rw [hw] at h1
      obtain rfl : d = y := h1
      have tt : W.cell? ⟨n0 + 1 + 1 + 1, 0, none⟩ = some (.bool true) := by rw [t0, hw]; rfl
      by_cases c3 : x.seq ≤ d.seq
      · have HE : Hid (wordL whom (pre ++ [x]) = wordL whom pre) := by show _ = _; rw [hE]; unfold wordF; rw [if_neg c1, if_neg (by simp [c2]), hw]; exact if_pos c3
        have h1 : d = (wordL whom pre).getD default := by rw [hw]; rfl
        have c3' : decide (x.seq ≤ d.seq) = true := decide_eq_true c3
        have H1 := Lib.hid h1
        have HW := Lib.hid hw
        clear hE c1 c2 t0 h1 hw
        gi_wp2_with fail
        refine ⟨(KeepsOthers.refl _).from _, ⟨Below.refl _ _, fun e => e⟩, ?_⟩
        show WordI _ _ _ _ _ _
        exact ⟨⟨d, by rw [HE.out]; exact H1.out, h2, by rw [HE.out]; exact h3⟩, h4, h5, h6, h7⟩
      · have HE : Hid (wordL whom (pre ++ [x]) = some x) := by show _ = _; rw [hE]; unfold wordF; rw [if_neg c1, if_neg (by simp [c2]), hw]; exact if_neg c3
        have c3' : decide (x.seq ≤ d.seq) = false := decide_eq_false c3
        have HW := Lib.hid hw
        clear hE c1 c2 t0 hw
        gi_wp2_with fail
        clear f0 f1 f2 f3 f4 f5 f6 f7 f8 f9 f10 ft tt g0
        have S3 := stT_other h3 (q := n0 + 1 + 1) (by omega) x
        have S2 := bx_seto (stT_self h2 rfl x) (q' := n0 + 1 + 1 + 1) (by omega) 0 (.bool true)
        have S3' := bx_setc S3 0 (.bool true)
        have hn := HN0.out
        refine ⟨((stT_keeps W (n0 + 1 + 1) x).trans (KeepsOthers.setCell _ _ _)).from _, ⟨?_, fun e => bx_seto (stT_other e (q := n0 + 1 + 1) (by omega) x) (by omega) _ _⟩, ?_⟩
        · exact (stT_below (Below.refl _ W) (q := n0 + 1 + 1) (by omega) x).setCell (p := ⟨n0 + 1 + 1 + 1, 0, none⟩) (by show _ ≤ n0 + 1 + 1 + 1; omega) _
        · refine ⟨⟨x, by rw [HE.out]; rfl, S2, by rw [HE.out]; exact S3'⟩, (stT_below h4 (q := n0 + 1 + 1) (by omega) x).setCell (p := ⟨n0 + 1 + 1 + 1, 0, none⟩) (by show _ ≤ n0 + 1 + 1 + 1; omega) _, ?_, ?_, ?_⟩
          · exact bx_seto (stT_other h5 (q := n0 + 1 + 1) (by omega) x) (by omega) _ _
          · exact bx_seto (stT_other h6 (q := n0 + 1 + 1) (by omega) x) (by omega) _ _
          · exact bx_seto (stT_other h7 (q := n0 + 1 + 1) (by omega) x) (by omega) _ _
  case done =>
    rintro D ys W hD rfl ⟨⟨d, h1, h2, h3⟩, h4, h5, h6, h7⟩ hK
    obtain ⟨o, ho⟩ : ∃ o, wordL whom (devT 1 l) = o := ⟨_, rfl⟩
    rw [ho] at h1 h3
    have H1 := Lib.hid h1
    have HO := Lib.hid ho
    clear h1 ho
    have d0 := cell_of_box h2 0 rfl
    have d1 := cell_of_box h2 1 rfl
    have d2 := cell_of_box h2 2 rfl
    have d3 := cell_of_box h2 3 rfl
    have d4 := cell_of_box h2 4 rfl
    have d5 := cell_of_box h2 5 rfl
    have d6 := cell_of_box h2 6 rfl
    have d7 := cell_of_box h2 7 rfl
    have d8 := cell_of_box h2 8 rfl
    have d9 := cell_of_box h2 9 rfl
    have d10 := cell_of_box h2 10 rfl
    have t0 := cell_of_box h3 0 rfl
    have z0 := cell_of_box h7 0 rfl
    have z1 := cell_of_box h7 1 rfl
    have z2 := cell_of_box h7 2 rfl
    have z3 := cell_of_box h7 3 rfl
    have z4 := cell_of_box h7 4 rfl
    have z5 := cell_of_box h7 5 rfl
    have z6 := cell_of_box h7 6 rfl
    have z7 := cell_of_box h7 7 rfl
    have z8 := cell_of_box h7 8 rfl
    have z9 := cell_of_box h7 9 rfl
    have z10 := cell_of_box h7 10 rfl
    have fz := fun j => frozen_of_box h7 j
    have f0 := fz 0
    have f1 := fz 1
    have f2 := fz 2
    have f3 := fz 3
    have f4 := fz 4
    have f5 := fz 5
    have f6 := fz 6
    have f7 := fz 7
    have f8 := fz 8
    have f9 := fz 9
    have f10 := fz 10
    clear fz
    gi_wp2_with fail
    gi_big_region
    gi_wp2_with fail
    rw [Exit.noGoto_ret]
    have hKV : (stT W (n0 + 1) d).drew.heap[D]? = some (.deferred (some [])) := (keeps_drewT (stT_keeps W (n0 + 1) d)).same D _ hK rfl
    have hV : Bx (stT W (n0 + 1) d).drew (n0 + 1) #[.int .i64 d.dev, .int .i64 d.seq, .int .i64 d.time, .slice d.ad d.nd d.cd, .slice d.ao d.no d.co, .slice d.ae d.ne d.ce, .bool d.fm, .slice d.ah d.nh d.ch, .int .i64 d.note, .int .i64 d.whom, .int .i64 d.upto] 31 := bx_drewT (stT_self h7 rfl d)
    have hB5 : Below w.heap.size w (stT W (n0 + 1) d).drew := by rw [HN0.out]; exact (stT_below h4 (q := n0 + 1) (by omega) d).drew
    have hD1 : n0 + 6 ≤ D := by have := HSZ3.out; omega
    clear d0 d1 d2 d3 d4 d5 d6 d7 d8 d9 d10 z0 z1 z2 z3 z4 z5 z6 z7 z8 z9 z10 f0 f1 f2 f3 f4 f5 f6 f7 f8 f9 f10 t0 h2 h3 h4 h5 h6 h7 hK
    refine ⟨by simp, .inl ⟨_, _, rfl, run_takeDeferred hKV, ?_⟩⟩
    obtain ⟨W1, hW1⟩ : ∃ W1, (stT W (n0 + 1) d).drew = W1 := ⟨_, rfl⟩
    rw [hW1] at hKV hV hB5 ⊢
    clear hW1
    have hV2 : Bx (W1.putObj D (.deferred none)) (n0 + 1) #[.int .i64 d.dev, .int .i64 d.seq, .int .i64 d.time, .slice d.ad d.nd d.cd, .slice d.ao d.no d.co, .slice d.ae d.ne d.ce, .bool d.fm, .slice d.ah d.nh d.ch, .int .i64 d.note, .int .i64 d.whom, .int .i64 d.upto] 31 := (World.putObj_heap_other (by omega)).trans hV
    have hB6 : Below w.heap.size w (W1.putObj D (.deferred none)) := hB5.trans (belowK_b (w := w) (Nat.le_refl _) W1 D _ _ (by rw [HN0.out]; omega) hKV rfl rfl)
    obtain ⟨W2, hW2⟩ : ∃ W2, W1.putObj D (.deferred none) = W2 := ⟨_, rfl⟩
    rw [hW2] at hV2 hB6 ⊢
    have z0 := cell_of_box hV2 0 rfl
    have z1 := cell_of_box hV2 1 rfl
    have z2 := cell_of_box hV2 2 rfl
    have z3 := cell_of_box hV2 3 rfl
    have z4 := cell_of_box hV2 4 rfl
    have z5 := cell_of_box hV2 5 rfl
    have z6 := cell_of_box hV2 6 rfl
    have z7 := cell_of_box hV2 7 rfl
    have z8 := cell_of_box hV2 8 rfl
    have z9 := cell_of_box hV2 9 rfl
    have z10 := cell_of_box hV2 10 rfl
    have HB6 := Lib.hid hB6
    clear hKV hV hB5 hW2 hV2 hB6
    refine ⟨.tuple #[.agg #[.int .i64 d.dev, .int .i64 d.seq, .int .i64 d.time, .slice d.ad d.nd d.cd, .slice d.ao d.no d.co, .slice d.ae d.ne d.ce, .bool d.fm, .slice d.ah d.nh d.ch, .int .i64 d.note, .int .i64 d.whom, .int .i64 d.upto], .bool o.isSome], by simp [results, Tryz.results30, go_sem, z0, z1, z2, z3, z4, z5, z6, z7, z8, z9, z10], ?_⟩
    show WordP w (wordT l whom) _ _
    rw [show wordT l whom = o from HO.out]
    exact ⟨d, H1.out, rfl, HB6.out⟩
  case stop =>
    rintro D c pre W _ _ h _
    exact h.elim
end Go.Proofs.YtnolbabpkhdpmaaGreat
/- A region that draws its order, walked in the text's, inside a fence and in a round. (printed by tools/gen_yl.py) -/
namespace Go.Proofs.YtnolbabpkhdpmaaGreat
open Go.RowKit Go.Sort Go.BigFrame

section
variable {P : Program} {l : List Oper}
theorem wpAny_flow {Q : Exit → Act → World → Prop} {a : Act} {w : World} (m : Nat) (sp : List (Nat × FlowSpec)) (hF : flowB l m (fun k => (sp.lookup k).isSome) = true)
    (hin : ∀ x ∈ sp, ∃ v, x.2.S v) (hst : ∀ x ∈ sp, ∀ v a b w w', x.2.R v a b w → Ext w w' → x.2.R v a b w')
    (H : ∀ lo hi, FlowW P l w sp lo hi (fun a' w' => wpList P l.toArray Q (l.drop m) a' w') (l.take m) 0 a (fun _ _ => True)) : wpAny P .any l.toArray Q l.toArray.size (Array.replicate l.toArray.size false) a { w with drawn := w.drawn + 1 } := by
  have mem : ∀ {sp : List (Nat × FlowSpec)} {k : Nat} {s : FlowSpec}, sp.lookup k = some s → (k, s) ∈ sp := by
    intro sp
    induction sp with
    | nil => intro k s h; cases h
    | cons x sp ih =>
      intro k s h
      obtain ⟨i, t⟩ := x
      rw [List.lookup_cons] at h
      by_cases hk : k = i
      · subst hk
        simp at h
        subst h
        simp
      · have : (k == i) = false := by simpa using hk
        rw [this] at h
        exact List.mem_cons_of_mem _ (ih h)
  refine wpAny_inv2 (flowB_back hF) (FlowI P Q l w sp a m) (fun d a' w' i o ho hdep hi hI K hK => flow_step hF (fun k s hk => hst _ (mem hk)) H d a' w' i o ho hdep hi hI K hK) (fun d a' w' hI hall => ?_) _ _ a _ (by simp) ?_ ?_
  · obtain ⟨hd, hI⟩ := hI
    rcases hI with ⟨hext, hlt, fv, lo, hi', hS, hfr, hfact, hhi, hz, hap⟩ | ⟨k, hmk, hkl, hk, hw⟩
    · have hml : m = l.length := by
        have := flowB_len hF
        rcases Nat.lt_or_ge m l.length with h | h
        · have := hlt m (hall m h); omega
        · omega
      obtain ⟨F, hFl, hFF⟩ := flow_at hF (H lo hi') fv hS m (Nat.le_refl _)
      have hnil : (l.take m).drop m = [] := List.drop_of_length_le (by rw [List.length_take]; omega)
      rw [hnil] at hFl
      have hT := hFl w' hext (fun j => hFF j w' fun hj => hfact j (hall j (by omega))) hap
      have hde : d = fun j => decide (j < m) := funext fun j => by
        rw [Bool.eq_iff_iff, decide_eq_true_eq]
        exact ⟨hlt j, fun h => hall j (by omega)⟩
      rw [hde] at hfr
      rw [← hfr.ext (lexA_frame (P := P) (w0 := w) hF fv m), List.drop_of_length_le (by omega)] at hT
      exact hT
    · have : l.length ≤ k := by
        rcases Nat.lt_or_ge k l.length with h | h
        · have := (hk k h).1 (hall k h); omega
        · exact h
      rw [List.drop_of_length_le this] at hw
      exact hw
  · unfold undone
    refine Nat.le_trans List.countP_le_length ?_
    simp
  · have : (fun j => (Array.replicate l.toArray.size false).getD j false) = (fun _ => false) := by
      funext j
      by_cases h : j < l.length <;> simp [Array.getD, h]
    rw [this]
    refine ⟨(fun i o _ h => nomatch h), .inl ⟨(Below.refl _ w).drew, (fun j h => nomatch h), ?_⟩⟩
    refine ⟨fun k => match h : sp.lookup k with | none => undef | some s => (hin _ (mem h)).choose, fun _ => 0, fun _ => 0, fun k s hk => ?_, ⟨rfl, rfl, (fun j t h => nomatch h), fun t _ => rfl⟩, (fun j h => nomatch h), fun _ => Nat.zero_le _, fun _ _ => rfl, fun _ _ _ _ _ => .inl (Nat.zero_le _)⟩
    have hspec : ∀ (h : sp.lookup k = some s), s.S ((hin _ (mem h)).choose) := fun h => (hin _ (mem h)).choose_spec
    show s.S (match h : sp.lookup k with | none => undef | some s => (hin _ (mem h)).choose)
    split
    · rename_i h; rw [h] at hk; cases hk
    · rename_i s' h
      rw [h] at hk
      cases hk
      exact hspec h
end
section
variable {P : Program} {F : Fence} {n : Nat} {md : Region.Mode} {ops : Array Oper} {Q : Exit → Act → World → Prop}
theorem opIn_of (hf : ∀ f, F.fn f) (hd : F.depth = none) (hc : ∀ {f : FuncId} {args : Array Value} {w : World} {R : Ending → World → Prop}, Calls P f args w R → CallsIn F (n - 1) P f args w R) (hrow : ∀ {row : String} {args : Array Value} {w : World} {R : Value → World → Prop}, Rows P row args w R → RowsIn F (n - 1) P row args w R)
    (hq : ¬ LetsOut Q) (hdef : ∀ (i : Nat) o, ops[i]? = some o → ∀ c, o.op ≠ .defer c) {i : Nat} {K : Act → World → Prop} {a : Act} {w : World} (h : wpOp P ops Q i K a w) : wpOpIn F n P ops Q i K a w := by
  unfold wpOp at h
  unfold wpOpIn
  cases ho : ops[i]? with
  | none => rw [ho] at h; exact h
  | some o =>
    rw [ho] at h
    simp only [] at h ⊢
    by_cases hw : Region.wanted o (yielded ops a.tmps) = true
    · rw [if_pos hw] at h ⊢
      rcases h with h | h
      · unfold Oper.wp at h
        unfold Oper.wpIn
        refine ⟨fun f _ => hf f, ?_⟩
        rw [Oper.semAt_eq _ _ _ (hdef i o ho)]
        revert h
        generalize (execOp a.eval o).run P w = r
        intro h
        cases r with
        | ok x w' =>
          cases x with
          | value v => exact h
          | skip => exact h
          | defer d => exact h
          | enter f args => exact ⟨(fun e => by rw [hd] at e; cases e), hc h⟩
          | row row args => exact ⟨(fun e => by rw [hd] at e; cases e), hrow h⟩
          | _ => exact h.elim
        | halt x w' =>
          cases x with
          | panic v => exact h
          | _ => exact h.elim
      · exact absurd h.2 hq
    · rw [if_neg hw] at h ⊢
      exact ⟨fun f _ => hf f, h⟩
theorem anyIn_of (hf : ∀ f, F.fn f) (hd : F.depth = none) (hc : ∀ {f : FuncId} {args : Array Value} {w : World} {R : Ending → World → Prop}, Calls P f args w R → CallsIn F (n - 1) P f args w R) (hrow : ∀ {row : String} {args : Array Value} {w : World} {R : Value → World → Prop}, Rows P row args w R → RowsIn F (n - 1) P row args w R)
    (hq : ¬ LetsOut Q) (hdef : ∀ (i : Nat) o, ops[i]? = some o → ∀ c, o.op ≠ .defer c) : ∀ (fuel : Nat) (L : Array Bool) (a : Act) (w : World), wpAny P md ops Q fuel L a w → wpAnyIn F n P md ops Q fuel L a w
  | 0, _, _, _, h => h
  | fuel + 1, _, _, _, h => ⟨h.1, fun i hi => wpOpIn_mono (fun a w => anyIn_of hf hd hc hrow hq hdef fuel _ a w) (opIn_of hf hd hc hrow hq hdef (h.2 i hi))⟩
end
section
variable {P : Program} {l : List Oper}
/-- A region that draws its order, in a round, walked in the text's order. -/
theorem wpIn_region_flow {l' n : Nat} {K : Act → World → Prop} {Q : Exit → Act → World → Prop} {id : Nat} {a : Act} {w : World} (hm : P.follows .mixedOrders = true) (hdef : l.all (fun o => match o.op with | .defer _ => false | _ => true) = true) (m : Nat) (sp : List (Nat × FlowSpec)) (hF : flowB l m (fun k => (sp.lookup k).isSome) = true)
    (hin : ∀ x ∈ sp, ∃ v, x.2.S v) (hst : ∀ x ∈ sp, ∀ v a b w w', x.2.R v a b w → Ext w w' → x.2.R v a b w')
    (H : ∀ lo hi, FlowW P l w sp lo hi (fun a' w' => wpList P l.toArray (onlyN K) (l.drop m) a' w') (l.take m) 0 a (fun _ _ => True)) : (Code.region id l.toArray true).wpIn (Fence.wide.inRound l') n P (Exit.then K Q) a w := by
  have hd : ∀ (i : Nat) o, l.toArray[i]? = some o → ∀ c, o.op ≠ .defer c := fun i o ho c e => by
    have h1 : o ∈ l := List.mem_of_getElem? (by simpa using ho)
    have h2 := List.all_eq_true.1 hdef o h1
    rw [e] at h2
    cases h2
  have h := anyIn_of (F := Fence.wide.inRound l') (n := n) (md := .any) (Q := onlyN K) (fun _ => trivial) rfl (fun h => CallsIn.inRound l' (callsIn_wide.2 h)) (fun h c cs _ => let ⟨v, w', r, s⟩ := h c cs; ⟨v, w', r, stepsIn_wide.2 s⟩) onlyN_out hd _ _ _ _ (wpAny_flow (Q := onlyN K) (a := a) (w := w) m sp hF hin hst H)
  exact wpIn_mono (wpIn_region_any hm h) fun e a w hq => by
    cases e with
    | normal => exact hq
    | _ => exact hq.elim
/-- A region that draws its order, inside the wide fence, walked in the text's order. -/
theorem wpIn_region_flow0 {n : Nat} {K : Act → World → Prop} {Q : Exit → Act → World → Prop} {id : Nat} {a : Act} {w : World} (hm : P.follows .mixedOrders = true) (hdef : l.all (fun o => match o.op with | .defer _ => false | _ => true) = true) (m : Nat) (sp : List (Nat × FlowSpec)) (hF : flowB l m (fun k => (sp.lookup k).isSome) = true)
    (hin : ∀ x ∈ sp, ∃ v, x.2.S v) (hst : ∀ x ∈ sp, ∀ v a b w w', x.2.R v a b w → Ext w w' → x.2.R v a b w')
    (H : ∀ lo hi, FlowW P l w sp lo hi (fun a' w' => wpList P l.toArray (onlyN K) (l.drop m) a' w') (l.take m) 0 a (fun _ _ => True)) : (Code.region id l.toArray true).wpIn Fence.wide n P (Exit.then K Q) a w := by
  have hd : ∀ (i : Nat) o, l.toArray[i]? = some o → ∀ c, o.op ≠ .defer c := fun i o ho c e => by
    have h1 : o ∈ l := List.mem_of_getElem? (by simpa using ho)
    have h2 := List.all_eq_true.1 hdef o h1
    rw [e] at h2
    cases h2
  have h := anyIn_of (F := Fence.wide) (n := n) (md := .any) (Q := onlyN K) (fun _ => trivial) rfl (fun h => callsIn_wide.2 h) (fun h c cs _ => let ⟨v, w', r, s⟩ := h c cs; ⟨v, w', r, stepsIn_wide.2 s⟩) onlyN_out hd _ _ _ _ (wpAny_flow (Q := onlyN K) (a := a) (w := w) m sp hF hin hst H)
  exact wpIn_mono (wpIn_region_any hm h) fun e a w hq => by
    cases e with
    | normal => exact hq
    | _ => exact hq.elim
end
end Go.Proofs.YtnolbabpkhdpmaaGreat
