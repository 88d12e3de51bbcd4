/-
  Layer 17 (tx): what Parse defers; Parse step by step; its door.
-/
import Derived.Test.YtliokkoalkhpaaaUT
import Derived.Defers
import Derived.Recover
namespace Go.Proofs.Ytliokkoalkhpaaa
section
open Go.RowKit Go.Sort Go.BigFrame

set_option maxRecDepth 100000 in
set_option maxHeartbeats 2000000 in
theorem catch_idle (p q : Value) (w : World) :
    CallsD Try.prog 38 #[p, q] .returning w fun e u' w' => e = .returned (.tuple #[]) ∧ u' = .returning ∧ w' = w := by
  have hnil : ∀ w : World, (binOp BinOp.eql 20 .nilIface .nilIface).run Try.prog w = .ok (.bool true) w := fun _ => by kernel_rfl
  refine callsD_of_wpS Try.func38 rfl fun c₀ cs hu => ?_
  apply wpS_seq
  apply wpS_region
  simp [wpOpsS, go_sem, recoverD, hu, Try.ntmps38, Exit.thenS]
  refine wpS_of_wp ?_
  go_wp2
  cases c₀
  simp_all [bodyPostS, results, Try.results38]

set_option maxRecDepth 100000 in
set_option maxHeartbeats 2000000 in
theorem catch_amiss {p q : Nat} {cs : Array Value} {x : Value} {w : World} (hp : Bx w p cs 27) (hs : cs.size = 11) (hq : Bx w q #[x] 40) (hpq : p ≠ q) :
    CallsD Try.prog 38 #[.pointer (some ⟨p, 0, none⟩), .pointer (some ⟨q, 0, none⟩)] (.panicking Amiss) w fun e u' w' =>
      e = .returned (.tuple #[]) ∧ u' = .panicking [{ v := .iface 74 (.agg #[]), recovered := true }] ∧ (Bx w' p #[.int .i64 0, .int .i64 0, .int .i64 0, .slice none 0 0, .slice none 0 0, .slice none 0 0, .bool false, .slice none 0 0, .int .i64 0, .int .i64 0, .int .i64 0] 27 ∧ Bx w' q #[.int .i64 3] 40 ∧ But (fun k => k = p ∨ k = q) w w') := by
  have hnil : ∀ w : World, (binOp BinOp.eql 20 (.iface 74 (.agg #[])) .nilIface).run Try.prog w = .ok (.bool false) w := fun _ => by kernel_rfl
  refine callsD_of_wpS Try.func38 rfl fun c₀ cs hu => ?_
  apply wpS_seq
  apply wpS_region
  simp [wpOpsS, go_sem, recoverD, hu, Try.ntmps38, Exit.thenS]
  refine wpS_of_wp ?_
  have HP := Lib.hid hp
  have HQ := Lib.hid hq
  clear hp hq
  have hta : ∀ w : World, (Instr.typeAssert (.iface 74 (.agg #[])) 20 74 true).run Try.prog w = .ok (.tuple #[.agg #[], .bool true]) w := fun _ => by kernel_rfl
  go_wp2_with (refine wpList_store_box rfl _ _ rfl rfl rfl (by kernel_rfl) (bx_later (below_alloc _ _) HP.out) hs rfl rfl rfl ?_; have c3 := cell_of_box (bx_row_other (bx_later (below_alloc w (.cells #[] 74)) HQ.out) (Ne.symm hpq) #[.int .i64 0, .int .i64 0, .int .i64 0, .slice none 0 0, .slice none 0 0, .slice none 0 0, .bool false, .slice none 0 0, .int .i64 0, .int .i64 0, .int .i64 0]) 0 rfl; have z3 := frozen_of_box (bx_row_other (bx_later (below_alloc w (.cells #[] 74)) HQ.out) (Ne.symm hpq) #[.int .i64 0, .int .i64 0, .int .i64 0, .slice none 0 0, .slice none 0 0, .slice none 0 0, .bool false, .slice none 0 0, .int .i64 0, .int .i64 0, .int .i64 0]) 0)
  have h1 : Bx (((w.alloc (.cells #[] 74)).setRow p #[.int .i64 0, .int .i64 0, .int .i64 0, .slice none 0 0, .slice none 0 0, .slice none 0 0, .bool false, .slice none 0 0, .int .i64 0, .int .i64 0, .int .i64 0]).setCell ⟨q, 0, none⟩ (.int .i64 3)) p #[.int .i64 0, .int .i64 0, .int .i64 0, .slice none 0 0, .slice none 0 0, .slice none 0 0, .bool false, .slice none 0 0, .int .i64 0, .int .i64 0, .int .i64 0] 27 := bx_set_other (bx_row (bx_later (below_alloc _ _) HP.out) _) hpq 0 _
  have h2 : Bx (((w.alloc (.cells #[] 74)).setRow p #[.int .i64 0, .int .i64 0, .int .i64 0, .slice none 0 0, .slice none 0 0, .slice none 0 0, .bool false, .slice none 0 0, .int .i64 0, .int .i64 0, .int .i64 0]).setCell ⟨q, 0, none⟩ (.int .i64 3)) q #[.int .i64 3] 40 := bx_set (bx_row_other (bx_later (below_alloc _ _) HQ.out) (Ne.symm hpq) _) 0 _
  have h3 : But (fun k => k = p ∨ k = q) w (((w.alloc (.cells #[] 74)).setRow p #[.int .i64 0, .int .i64 0, .int .i64 0, .slice none 0 0, .slice none 0 0, .slice none 0 0, .bool false, .slice none 0 0, .int .i64 0, .int .i64 0, .int .i64 0]).setCell ⟨q, 0, none⟩ (.int .i64 3)) := ((But.of_below (S := fun k => k = p ∨ k = q) (below_alloc w (.cells #[] 74))).trans (but_row _ p _) (fun i _ e => .inl e)).set (a := ⟨q, 0, none⟩) (.inr rfl) _
  clear c3 z3
  generalize ((w.alloc (.cells #[] 74)).setRow p #[.int .i64 0, .int .i64 0, .int .i64 0, .slice none 0 0, .slice none 0 0, .slice none 0 0, .bool false, .slice none 0 0, .int .i64 0, .int .i64 0, .int .i64 0]).setCell ⟨q, 0, none⟩ (.int .i64 3) = w9 at h1 h2 h3 ⊢
  have H : Hid (Bx w9 p #[.int .i64 0, .int .i64 0, .int .i64 0, .slice none 0 0, .slice none 0 0, .slice none 0 0, .bool false, .slice none 0 0, .int .i64 0, .int .i64 0, .int .i64 0] 27 ∧ Bx w9 q #[.int .i64 3] 40 ∧ But (fun k => k = p ∨ k = q) w w9) := ⟨h1, h2, h3⟩
  clear h1 h2 h3 hnil hta HP HQ
  cases c₀
  simp only [bodyPostS, results, Try.results38]
  exact ⟨trivial, _, rfl, .tuple #[], by simp [go_sem], rfl, rfl, H.out⟩
end

section
open Go.RowKit Go.Sort Go.BigFrame

section
variable {b : List UInt8} {l ds : List Int} {os es : List OpT} {hs : List HandT} {k1 k2 k3 k4 k5 : Nat}
theorem parse_no1 (h : sevenD b = none) : parseT b = none := by simp [parseT, wholeD, txD, mapD, seqD, headD, onlyD, h]
theorem parse_no2 (h : sevenD b = some (l, k1)) (hn : ¬ (0 ≤ l.getD 3 0 ∧ l.getD 3 0 ≤ 1)) : parseT b = none := by
  unfold parseT wholeD txD mapD seqD headD onlyD
  rw [h]
  simp only
  rw [if_neg (by simpa using hn)]
  rfl
theorem headD_yes (h : sevenD b = some (l, k1)) (hn : 0 ≤ l.getD 3 0 ∧ l.getD 3 0 ≤ 1) : headD b = some (l, k1) := by
  unfold headD onlyD
  rw [h]
  simp only
  rw [if_pos (by simpa using hn)]
theorem parse_no3 (h : headD b = some (l, k1)) (h2 : depsD (b.drop k1) = none) : parseT b = none := by simp [parseT, wholeD, txD, mapD, seqD, h, h2]
theorem parse_no4 (h : headD b = some (l, k1)) (h2 : depsD (b.drop k1) = some (ds, k2)) (h3 : opsD ((b.drop k1).drop k2) = none) : parseT b = none := by
  simp only [parseT, wholeD, txD, mapD, seqD, h, h2, h3]; rfl
theorem parse_no5 (h : headD b = some (l, k1)) (h2 : depsD (b.drop k1) = some (ds, k2)) (h3 : opsD ((b.drop k1).drop k2) = some (os, k3)) (h4 : opsD (((b.drop k1).drop k2).drop k3) = none) : parseT b = none := by
  simp only [parseT, wholeD, txD, mapD, seqD, h, h2, h3, h4]; rfl
theorem parse_no6 (h : headD b = some (l, k1)) (h2 : depsD (b.drop k1) = some (ds, k2)) (h3 : opsD ((b.drop k1).drop k2) = some (os, k3)) (h4 : opsD (((b.drop k1).drop k2).drop k3) = some (es, k4)) (h5 : handsD ((((b.drop k1).drop k2).drop k3).drop k4) = none) : parseT b = none := by
  simp only [parseT, wholeD, txD, mapD, seqD, h, h2, h3, h4, h5]; rfl
theorem parse_all (h : headD b = some (l, k1)) (h2 : depsD (b.drop k1) = some (ds, k2)) (h3 : opsD ((b.drop k1).drop k2) = some (os, k3)) (h4 : opsD (((b.drop k1).drop k2).drop k3) = some (es, k4)) (h5 : handsD ((((b.drop k1).drop k2).drop k3).drop k4) = some (hs, k5)) :
    parseT b = if k1 + (k2 + (k3 + (k4 + k5))) = b.length then some (txOf (l, (ds, (os, (es, hs))))) else none := by
  simp only [parseT, wholeD, txD, mapD, seqD, h, h2, h3, h4, h5]; rfl
theorem depsD_no (h : getNums b = none) : depsD b = none := by unfold depsD onlyD; rw [h]
theorem depsD_last (h : getNums b = some (ds, k2)) (hn : ds.getLast? = some 0) : depsD b = none := by
  unfold depsD onlyD
  rw [h]
  simp [hn]
theorem depsD_yes (h : getNums b = some (ds, k2)) (hn : ds.getLast? ≠ some 0) : depsD b = some (ds, k2) := by
  unfold depsD onlyD
  rw [h]
  simp [hn]
end

/-- The door, where a reader gave up. -/
theorem door_panic {p q : Nat} {cs : Array Value} {x : Value} {w : World} {tmps : Array Value} {R : Ending → World → Prop} (hp : Bx w p cs 27) (hs : cs.size = 11) (hq : Bx w q #[x] 40) (hpq : p ≠ q)
    (h2 : tmps.getD 2 undef = .pointer (some ⟨p, 0, none⟩)) (h3 : tmps.getD 3 undef = .pointer (some ⟨q, 0, none⟩))
    (hR : ∀ w', But (fun k => k = p ∨ k = q) w w' → R (.returned (.tuple #[.agg #[.int .i64 0, .int .i64 0, .int .i64 0, .slice none 0 0, .slice none 0 0, .slice none 0 0, .bool false, .slice none 0 0, .int .i64 0, .int .i64 0, .int .i64 0], .int .i64 3])) w') :
    bodyPostD Try.prog Try.f21 R (.panic Amiss) { tmps := tmps, defers := [{ target := .fn (.func 38) #[.pointer (some ⟨p, 0, none⟩), .pointer (some ⟨q, 0, none⟩)], args := #[] }] } w := by
  refine leaves_cons (f := 38) (args := #[.pointer (some ⟨p, 0, none⟩), .pointer (some ⟨q, 0, none⟩)]) (by simp) (by simp [go_sem]) ?_
  refine (catch_amiss hp hs hq hpq).mono ?_
  rintro e u' w'' ⟨rfl, rfl, hb1, hb2, hbt⟩
  have H := Lib.hid (hR w'' hbt)
  have c0 := cell_of_box hb1 0 rfl
  have c1 := cell_of_box hb1 1 rfl
  have c2 := cell_of_box hb1 2 rfl
  have c3 := cell_of_box hb1 3 rfl
  have c4 := cell_of_box hb1 4 rfl
  have c5 := cell_of_box hb1 5 rfl
  have c6 := cell_of_box hb1 6 rfl
  have c7 := cell_of_box hb1 7 rfl
  have c8 := cell_of_box hb1 8 rfl
  have c9 := cell_of_box hb1 9 rfl
  have c10 := cell_of_box hb1 10 rfl
  have d0 := cell_of_box hb2 0 rfl
  clear hb1 hb2 hbt hp hq hR
  rw [Array.getD_eq_getD_getElem?] at h2 h3
  refine ⟨_, ?_, H.out⟩
  simp [results, Try.results21, go_sem, h2, h3, c0, c1, c2, c3, c4, c5, c6, c7, c8, c9, c10, d0]

/-- The door, where all was read. -/
theorem door_ret {p q : Nat} {c0 c1 c2 c3 c4 c5 c6 c7 c8 c9 c10 e0 : Value} {w : World} {tmps : Array Value} {R : Ending → World → Prop} (hp : Bx w p #[c0, c1, c2, c3, c4, c5, c6, c7, c8, c9, c10] 27) (hq : Bx w q #[e0] 40)
    (h2 : tmps.getD 2 undef = .pointer (some ⟨p, 0, none⟩)) (h3 : tmps.getD 3 undef = .pointer (some ⟨q, 0, none⟩)) (hR : R (.returned (.tuple #[.agg #[c0, c1, c2, c3, c4, c5, c6, c7, c8, c9, c10], e0])) w) :
    bodyPostD Try.prog Try.f21 R .ret { tmps := tmps, defers := [{ target := .fn (.func 38) #[.pointer (some ⟨p, 0, none⟩), .pointer (some ⟨q, 0, none⟩)], args := #[] }] } w := by
  refine leaves_cons (f := 38) (args := #[.pointer (some ⟨p, 0, none⟩), .pointer (some ⟨q, 0, none⟩)]) (by simp) (by simp [go_sem]) ?_
  refine (catch_idle _ _ w).mono ?_
  rintro e u' w'' ⟨rfl, rfl, rfl⟩
  have H := Lib.hid hR
  have y0 := cell_of_box hp 0 rfl
  have y1 := cell_of_box hp 1 rfl
  have y2 := cell_of_box hp 2 rfl
  have y3 := cell_of_box hp 3 rfl
  have y4 := cell_of_box hp 4 rfl
  have y5 := cell_of_box hp 5 rfl
  have y6 := cell_of_box hp 6 rfl
  have y7 := cell_of_box hp 7 rfl
  have y8 := cell_of_box hp 8 rfl
  have y9 := cell_of_box hp 9 rfl
  have y10 := cell_of_box hp 10 rfl
  have d0 := cell_of_box hq 0 rfl
  clear hp hq hR
  rw [Array.getD_eq_getD_getElem?] at h2 h3
  refine ⟨_, ?_, H.out⟩
  simp [results, Try.results21, go_sem, h2, h3, y0, y1, y2, y3, y4, y5, y6, y7, y8, y9, y10, d0]
end
end Go.Proofs.Ytliokkoalkhpaaa
