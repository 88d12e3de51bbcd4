/-
  Layer 24 (zset): slices.Grow, slices.Concat at items.
-/
import Derived.Test.YtgmemdhbnnhifaaZI
namespace Go.Proofs.Ytgmemdhbnnhifaa
open Go.RowKit Go.Sort Go.BigFrame

/-- append of so many noughts onto nothing. -/
theorem run_app_zeros {P : Program} (w : World) {t tx ty e : TypeId} {size bytes : Nat} {z : Value} (T : El P t e size bytes z) (hx : P.underlying tx = some (.int .i64)) {n : Nat} (h0 : 0 < n) (h63 : n ≤ maxLen) (hbytes : n * bytes ≤ 140737488355328) :
    ∃ cap cs, n ≤ cap ∧ cap ≤ maxLen ∧ cs.size = cap * size ∧ (Builtin.append_ #[t, tx] ty #[.slice none 0 0, .int .i64 n]).run P w = .ok (.slice (some ⟨w.heap.size, 0, none⟩) n cap) (w.drew.alloc (.cells cs e)) := by
  obtain ⟨i, hi, hz0, hz1, hz2⟩ := T.info
  have hzs := T.zs
  have hpos := T.pos
  subst hz1
  subst hz2
  have hsmall : n ≤ 9223372036854775807 := by simp only [maxLen] at h63; omega
  have hge := grownCap_ge w n 0 e
  have hcm : grownCap w n 0 e ≤ maxLen := grownCap_le_maxLen w n 0 e h63
  refine ⟨grownCap w n 0 e, Builtin.zeroCells z.cells n ++ Builtin.zeroCells z.cells (grownCap w n 0 e - n), hge, hcm, ?_, ?_⟩
  · rw [Array.size_append, size_zeroCells, size_zeroCells, hzs, ← Nat.add_mul]
    congr 1; omega
  · have hwr : IntKind.i64.wrap (n : Int) = (n : Int) := by rw [IntKind.wrap_i64]; omega
    have h48 := growslice_fits (old := 0) (need := n) (by omega) hbytes
    have h48' : ¬ (281474976710656 < Builtin.nextslicecap n 0 * i.bytes) := by omega
    have h48i : ¬ (281474976710656 < (n : Int) * (i.bytes : Int)) := by
      rw [← Int.natCast_mul]; omega
    have hx0 : ¬ (9223372036854775807 < (n : Int)) := by omega
    have hn0 : ¬ (n = 0) := by omega
    have hng : ¬ ((n : Int) < 0) := by omega
    have hn2 : ¬ (n * i.size = 0) := by have := Nat.mul_pos h0 hpos; omega
    simp [Builtin.append_, run_underlying T.ty, run_underlying hx, sizeOf, typeInfo, zeroValue, asInt, asIntOf, hi, hz0, hwr, h48', h48i, hx0, hn0, hng, hn2, Question.forced, newRow, grownCap, run_firstCells_none]

theorem wpList_app_zeros {P : Program} {w : World} {ops : Array Oper} {rest : List Oper} {o : Oper} {a : Act} {Q : Exit → Act → World → Prop}
    {t tx e : TypeId} {size bytes : Nat} {z : Value} (T : El P t e size bytes z) (hx : P.underlying tx = some (.int .i64))
    (hg : o.guard = none) (s x : Operand) (hop : o.op = Op.call { callee := Callee.builtin Builtin.append, args := #[s, x], argTypes := #[t, tx] })
    {n : Nat} (hsv : a.eval s = .slice none 0 0) (hxy : a.eval x = .int .i64 n) (h0 : 0 < n) (h63 : n ≤ maxLen) (hbytes : n * bytes ≤ 140737488355328)
    (hK : ∀ cap cs, n ≤ cap → cap ≤ maxLen → cs.size = cap * size → wpList P ops Q rest (a.put o.dst (.slice (some ⟨w.heap.size, 0, none⟩) n cap)) (w.drew.alloc (.cells cs e))) :
    wpList P ops Q (o :: rest) a w := by
  refine wpList_plain hg fun K hK' => ?_
  obtain ⟨cap, cs, h1, h2, h3, hrun⟩ := run_app_zeros (P := P) w (ty := o.type) T hx h0 h63 hbytes
  unfold Oper.wp
  simp [execOp, hop, resolve, invoke, builtin, hsv, hxy, hrun, Result.andThen]
  exact hK' _ _ (hK cap cs h1 h2 h3)

set_option maxRecDepth 100000 in
set_option maxHeartbeats 1000000 in
theorem grow_any (n : Nat) (w : World) (hn : n ≤ 2000000) :
    Calls Try.prog 47 #[.slice none 0 0, .int .i64 n] w (OwnPost w 0 []) := by
  by_cases h0 : n = 0
  · subst h0
    go_enter Try.func47, Try.ntmps47
    go_wp2
    go_ret
    exact ⟨_, rfl, World.ownsRow_nil _ _ _ _, Below.refl _ _⟩
  · have hpos : 0 < n := by omega
    clear h0
    go_enter Try.func47, Try.ntmps47
    go_wp2_with (at_builtin; refine wpList_app_zeros elIt Try.underlying3 rfl (.tmp 20) (.tmp 21) rfl rfl rfl hpos (by unfold maxLen; omega) (by omega) ?_; intro cap cs h1 h2 h3)
    have hsl := fun W => run_hi_at (l := 0) elIt (g := w.heap.size) (n := n) (c := cap) (Nat.zero_le _) h1 W
    have H3 := Lib.hid h3
    have H2 := Lib.hid h2
    clear h3 h2
    go_wp2
    go_ret
    refine ⟨_, rfl, ⟨by simp, .inr ⟨w.heap.size, cap, cs, rfl, Nat.le_refl _, heap_alloc_new w.drew _, Nat.zero_le _, H2.out, H3.out, by simp⟩⟩, below_of_drew (below_alloc w.drew _)⟩

/-- Slices, one behind the other. -/
abbrev Sl := Option Addr × Nat × Nat
abbrev Sl.v (s : Sl) : Value := .slice s.1 s.2.1 s.2.2

structure CatOk (w : World) (ss : List Sl) (ll : List (List It)) : Prop where
  len : ss.length = ll.length
  rd : ∀ k (hk : k < ss.length), Rd w (ss[k]).v (ll[k]'(len ▸ hk)).length (itCs (ll[k]'(len ▸ hk)))
  few : ll.flatten.length ≤ 1000000

theorem flat_next (ll : List (List It)) (k : Nat) (hk : k < ll.length) : (ll.take (k + 1)).flatten = (ll.take k).flatten ++ ll[k] := by
  rw [List.take_succ_eq_append_getElem hk, List.flatten_append]; simp

theorem flat_le (ll : List (List It)) (k : Nat) : (ll.take k).flatten.length ≤ ll.flatten.length := by
  conv => rhs; rw [← List.take_append_drop k ll, List.flatten_append, List.length_append]
  omega

theorem elSl : El Try.prog 62 22 1 24 (.slice none 0 0) := El.mk' (by kernel_rfl) (by kernel_rfl) rfl (by decide)

set_option maxRecDepth 100000 in
set_option maxHeartbeats 2000000 in
theorem concat_any (va : Value) (ss : List Sl) (ll : List (List It)) (w : World) (hr : Rd w va ss.length (ss.map Sl.v)) (hc : CatOk w ss ll) :
    Calls Try.prog 37 #[va] w (OwnPost w ll.flatten.length (itCs ll.flatten)) := by
  obtain ⟨ao, c, rfl, hnc, hcm, _, _⟩ := id hr
  obtain ⟨n, hln⟩ : ∃ n, ss.length = n := ⟨_, rfl⟩
  have HR := Lib.hid hr
  have HC := Lib.hid hc
  have HLN := Lib.hid hln
  rw [hln] at hnc HR
  rw [hln]
  unfold maxLen at hcm
  have hfew := hc.few
  clear hr hc hln
  go_enter Try.func37, Try.ntmps37
  go_wp2_with fail
  go_loop [3, 11] (fun vs vi => ∃ k s : Nat, k ≤ n ∧ vi = .int .i64 k ∧ vs = .int .i64 s ∧ Hid (s = (ll.take k).flatten.length)) (fun _ vi => n - (intOf vi).toNat)
  case atStart => exact ⟨0, 0, Nat.zero_le _, rfl, rfl, rfl⟩
  case round =>
    obtain ⟨k, s, hk, rfl, rfl, hs⟩ := hrel
    have hs6 : s ≤ 1000000 := by have := hs.out; have := flat_le ll k; omega
    by_cases hlt : k < n
    · have hkl : k < ss.length := by have := HLN.out; omega
      have hkm : k < ll.length := by have := HC.out.len; omega
      obtain ⟨A, x1, c0, _⟩ := rd_one elSl Sl.v HR.out HLN.out.symm k hkl
      have hrd := HC.out.rd k hkl
      obtain ⟨m, hm⟩ : ∃ m, (ll[k]).length = m := ⟨_, rfl⟩
      have hnx := congrArg List.length (flat_next ll k hkm)
      rw [List.length_append, ← hs.out, hm] at hnx
      have hm6 : s + m ≤ 1000000 := by have := flat_le ll (k + 1); omega
      have hm6i : (s : Int) + (m : Int) ≤ 1000000 := by omega
      obtain ⟨⟨a1, n1, c1⟩, hss⟩ : ∃ q, ss[k] = q := ⟨_, rfl⟩
      rw [hss] at c0 hrd
      rw [hm] at hrd
      obtain ⟨_, _, he, h1m, h2m, _, _⟩ := hrd
      injection he with e1 e2 e3
      subst e1 e2 e3
      replace hm6 : s + n1 ≤ 1000000 := hm6
      replace hm6i : (s : Int) + (n1 : Int) ≤ 1000000 := hm6i
      have HNX := Lib.hid hnx
      clear hm hss hnx
      go_wp2_with fail
      go_round
      case rel => exact ⟨k + 1, s + n1, by omega, by go_num, by go_num, HNX.out.symm⟩
      case measure => simp [intOf]; omega
    · have hkn : k = n := by omega
      subst hkn
      have hg := grow_any s w (by omega)
      have HG := Lib.hid hg
      clear hg
      go_wp2_with fail
      refine HG.out.mono ?_
      rintro e w1 ⟨v1, rfl, hown, hb⟩
      have HO := Lib.hid hown
      have HB := Lib.hid hb
      clear hown hb HG
      go_wp2_with fail
      go_loopw [6, 27] (fun v6 vi wr => ∃ j : Nat, j ≤ k ∧ vi = .int .i64 j ∧ Hid (wr.ownsRow w.heap.size 39 3 v6 (ll.take j).flatten.length (itCs (ll.take j).flatten)) ∧ Hid (Below w.heap.size w wr)) (fun _ vi _ => k - (intOf vi).toNat)
      case atStart => exact ⟨0, Nat.zero_le _, rfl, HO.out, HB.out⟩
      case round =>
        obtain ⟨j, hj, rfl, ho, hbw⟩ := hrel
        rename World => wr
        by_cases hlt : j < k
        · have hkl : j < ss.length := by have := HLN.out; omega
          have hkm : j < ll.length := by have := HC.out.len; omega
          obtain ⟨A, x1, c0, _⟩ := rd_one elSl Sl.v (HR.out.later hbw.out) HLN.out.symm j hkl
          have hrd := (HC.out.rd j hkl).later hbw.out
          have hnx := flat_next ll j hkm
          have hle := flat_le ll (j + 1)
          rw [hnx, List.length_append] at hle
          have hsrc : Src Try.prog wr 3 (ss[j]).v (ll[j]).length (itCs ll[j]) := Src.of_rd hrd (itCs_length _)
          obtain ⟨⟨a1, n1, c1⟩, hss⟩ : ∃ q, ss[j] = q := ⟨_, rfl⟩
          rw [hss] at c0 hsrc
          have HS := Lib.hid hsrc
          have HNX := Lib.hid hnx
          have HLE := Lib.hid hle
          clear hss hnx hrd hsrc hle
          go_wp2_with (at_builtin; refine wpList_app elIt ⟨_, elIt.ty, fun k h => by cases h⟩ rfl (.tmp 31) (.tmp 32) rfl rfl rfl ho.out HS.out (oneIt _) (by have := HLE.out; simp only [maxLen]; omega) (by have := HLE.out; omega) hbw.out.size ?_; intro v' w' own' grow' blk')
          have hb := hbw.out.grown grow' hbw.out.size (fun k hk => (ho.out.lt k hk).1)
          have HO2 := Lib.hid own'
          have HB2 := Lib.hid hb
          clear own' grow' blk' hb
          go_wp2_with fail
          go_roundw
          case rel =>
            refine ⟨j + 1, by omega, by go_num, ?_, HB2.out⟩
            have := HO2.out
            rw [HNX.out, List.length_append, itCs_app]
            exact this
          case measure => simp [intOf]; omega
        · have hjk : j = k := by omega
          subst hjk
          have ht : ll.take j = ll := List.take_of_length_le (by have := HLN.out; have := HC.out.len; omega)
          have HT := Lib.hid ht
          clear ht
          go_wp2_with fail
          go_ret
          refine ⟨_, rfl, ?_, hbw.out⟩
          have := ho.out
          rwa [HT.out] at this
end Go.Proofs.Ytgmemdhbnnhifaa
