/-
  Layer 24 (zset): an item put to a bag: the two walks.
-/
import Derived.Test.YtgmemdhbnnhifaaZC
namespace Go.Proofs.Ytgmemdhbnnhifaa
open Go.RowKit Go.Sort Go.BigFrame

set_option maxRecDepth 100000 in
set_option maxHeartbeats 1000000 in
theorem put_same (B pb : Nat) (v0 v : Value) (l0 : List It) (y x : It) (w : World) (h : BagAt B pb v0 v (l0 ++ [y]) w) (hy : Vit w y) (hx : Vit w x) (he : y.row = x.row) (hn : l0.length ≤ 1000000) :
    Calls Try.prog 33 #[.pointer (some ⟨pb, 0, none⟩), x.agg] w (PutPost B pb v0 v (l0 ++ [{ y with many := w64 (y.many + x.many) }]) w) := by
  obtain ⟨n, hln⟩ : ∃ n, l0.length = n := ⟨_, rfl⟩
  have hk : n < (l0 ++ [y]).length := by simp; omega
  have hyk : (l0 ++ [y])[n] = y := by simp [← hln]
  have hbx := below_alloc w (.cells #[.slice x.ra x.rn x.rc, .int .i64 x.many, .slice x.ba x.bn x.bc] 39)
  obtain ⟨w1, hw1⟩ : ∃ w1, w.alloc (.cells #[.slice x.ra x.rn x.rc, .int .i64 x.many, .slice x.ba x.bn x.bc] 39) = w1 := ⟨_, rfl⟩
  have e0 : w1.cell? ⟨w.heap.size, 0, none⟩ = some (.slice x.ra x.rn x.rc) := by rw [← hw1]; simp [go_sem]
  have e1 : w1.cell? ⟨w.heap.size, 1, none⟩ = some (.int .i64 x.many) := by rw [← hw1]; simp [go_sem]
  rw [hw1] at hbx
  have h1 := h.later hbx
  have hcell := h1.cell
  have hfr := h1.frozen 1
  obtain ⟨g, c, o, rfl, ho, hbg, hnc, hcm, x1, c0, c1, c2, hf, hg⟩ := own_it h1.2 n hk
  have hnn : (l0 ++ [y]).length = n + 1 := by simp [hln]
  rw [hyk] at c0 c1 c2
  rw [hnn] at x1 hcell hnc
  rw [hln] at hn
  have hf1 := hf (o + 1)
  have hs : sameR y.row x.row = true := decide_eq_true he
  have hq0 : (0 : Int) < ((n + 1 : Nat) : Int) := by omega
  have hq0n : 0 < n + 1 := by omega
  have hq1 : ((n + 1 : Nat) : Int) - 1 = (n : Int) := by omega
  have hq2 : (0 : Int) ≤ (n : Int) := by omega
  have hq3 : (n : Int) < ((n + 1 : Nat) : Int) := by omega
  have HB1 := Lib.hid h1
  have HW := Lib.hid hw1
  have HBX := Lib.hid hbx
  have HX := Lib.hid (hx.later hbx)
  have HY := Lib.hid (hy.later hbx)
  have HO := Lib.hid ho
  have HLN := Lib.hid hln
  have HBG := Lib.hid hbg
  clear h h1 hx hy he hk hyk hw1 hbx hf ho hln hnn hbg hcm
  unfold Vit at HX HY
  have cS : ∀ d os, Calls Try.prog 27 #[.slice y.ra y.rn y.rc, .slice x.ra x.rn x.rc] (grow (redrawn w1 d) os) fun e w'' => e = .returned (.bool true) ∧ ∃ p : Regrown, w'' = grow (redrawn w1 p.d) p.os := fun d os => Calls.regrown_of ((by rw [← hs]; exact sameR_any _ _ y.row x.row _ (HY.out.later (below_regrown w1 d os)) (HX.out.later (below_regrown w1 d os))))
  generalize hjj : n + 1 = jj at *
  have hcr : (w.alloc (.cells #[.slice x.ra x.rn x.rc, .int .i64 x.many, .slice x.ba x.bn x.bc] 39)).cell? ⟨pb, 1, none⟩ = some (.slice (some ⟨g, 0, none⟩) jj c) := by rw [HW.out]; exact hcell
  go_enter Try.func33, Try.ntmps33
  go_wp2_with fail
  rw [HW.out]
  clear hcr
  have kc0 := cell_regrown c0
  have kc1 := cell_regrown c1
  have kc2 := cell_regrown c2
  have ke0 := cell_regrown e0
  have ke1 := cell_regrown e1
  have khcell := cell_regrown hcell
  refine wp_region_quiet_below (by kernel_rfl) (by kernel_rfl) ?_
  repeat (go_big_quiet_step (first | exact cS _ _))
  refine wpQuiet_nil ?_
  intro _ hw'
  obtain ⟨⟨dq, osq⟩, hw''⟩ := hw'
  subst hw''
  clear kc0 kc1 kc2 ke0 ke1 khcell cS
  have hb2 := below_regrown w1 dq osq
  generalize grow (redrawn w1 dq) osq = w2 at *
  replace c0 := cell_later hb2 c0
  replace c1 := cell_later hb2 c1
  replace c2 := cell_later hb2 c2
  replace e0 := cell_later hb2 e0
  replace e1 := cell_later hb2 e1
  replace hcell := cell_later hb2 hcell
  have HB2 := Lib.hid (HB1.out.later hb2)
  have HBW2 := Lib.hid (below_then HBX.out hb2)
  replace hf1 := HB2.out.2.frozenAt (o + 1)
  clear hfr hb2
  go_wp2_with fail
  have hwr : IntKind.i64.wrap (n : Int) = (n : Int) := by rw [IntKind.wrap_i64]; omega
  go_still_tail 12, (by kernel_rfl)
  go_wp2_with fail
  have hset : (itCs (l0 ++ [y])).set (o + 1) (.int .i64 (wrap64 (y.many + x.many))) = itCs (l0 ++ [{ y with many := w64 (y.many + x.many) }]) := by
    rw [HO.out, itCs_set _ _ (by simp [HLN.out])]
    congr 1
    have hyy : (l0 ++ [y])[n]'(by simp [HLN.out]) = y := by simp [← HLN.out]
    rw [hyy]
    rw [List.set_append_right _ _ (by rw [HLN.out]; exact Nat.le_refl _), HLN.out]
    simp only [Nat.sub_self, List.set_cons_zero, List.append_cancel_left_eq, List.cons.injEq, and_true, w64_def, wrap64, IntKind.wrap_i64]
  obtain ⟨st, sg⟩ := HB2.out.2.stored (o + 1) (.int .i64 (wrap64 (y.many + x.many)))
  rw [hset] at st
  refine bodyPost_ret (v := .tuple #[]) (by simp [results, Try.results33, go_sem]) rfl ⟨rfl, .slice (some ⟨g, 0, none⟩) (l0 ++ [y]).length c, ⟨?_, ?_⟩, ?_, fun k hk => .inl hk⟩
  · exact (sg.block pb HB2.out.lt (fun e => HB2.out.not_row (by cases e; rfl))).trans HB2.out.1
  · have hl : (l0 ++ [{ y with many := w64 (y.many + x.many) }]).length = (l0 ++ [y]).length := by simp
    show World.ownsRow _ B _ 3 _ (List.length _) _
    rw [hl]; exact st
  · exact (((But.of_below HBW2.out).trans (But.of_grown (S := fun k => k = pb ∨ some g = some k) sg fun k hk => .inr hk) (fun _ _ h => h))).drew
end Go.Proofs.Ytgmemdhbnnhifaa
