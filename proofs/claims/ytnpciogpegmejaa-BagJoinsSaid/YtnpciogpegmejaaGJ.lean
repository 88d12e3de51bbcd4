/-
  Layer 9 (bag): slices.AppendSeq, slices.Collect at parts; Take. (printed by tools/gen_gj.py)
-/
import Derived.Test.YtnpciogpegmejaaGI
namespace Go.Proofs.Ytnpciogpegmejaa
open Go.RowKit Go.Sort Go.Shelf
attribute [local go_sem] Oper.semAt_some

/-- A block of cells stays where something that is no cells turns. -/
theorem bx_kept {W W' : World} {row : Option Nat} {q : Nat} {cs : Array Value} {T : TypeId} (h : Bx W q cs T) (hg : W.grownBy W' row) (hr : ∀ r, row = some r → ∃ o : Obj, W.heap[r]? = some o ∧ o.isCells = false) : Bx W' q cs T :=
  bx_grown hg h fun e => by obtain ⟨o, ho, hc⟩ := hr q e; rw [show W.heap[q]? = _ from h] at ho; cases ho; cases hc
theorem prtCs_snoc (l : List Prt) (x : Prt) : prtCs (l ++ [x]) = prtCs l ++ enP x := by simp [prtCs]

def SeqPost (n0 : Nat) (w : World) (l : List Prt) (e : Ending) (w' : World) : Prop := ∃ v', e = .returned v' ∧ w'.ownsRow n0 43 11 v' l.length (prtCs l) ∧ Below n0 w w'

set_option maxRecDepth 100000 in
set_option maxHeartbeats 4000000 in
theorem appendSeq_any {gf : Nat} {lb : Array Value} (heg : ∀ args w, (callFunc gf args).run Try.prog w = .ok (.enter gf args) w) (n0 q2 : Nat) (fo v0 : Value) (l0 L : List Prt) (N : Nat) (w : World)
    (hseq : ∀ m, 2 ≤ m → SeqStopsK Fence.wide m Try.prog gf lb (fun x : Prt => #[x.agg]) (KpS n0 q2 (.cells #[fo] 69 (0, 0))) (fun ys => ys = L) (fun _ => True) N w)
    (hown : w.ownsRow n0 43 11 v0 l0.length (prtCs l0)) (hn0 : n0 ≤ w.heap.size) (hq : Boxed w q2 69 fo) (hN : l0.length + N ≤ 1000000) :
    Calls Try.prog 37 #[v0, .func (.func gf) #[] lb] w (SeqPost n0 w (l0 ++ L)) := by
  obtain ⟨i0, hi, hz0, hz1, hz2⟩ := elP.info
  obtain ⟨ao, c, rfl, _⟩ := Rd.of_own hown
  refine (callsIn_wide (n := 6)).1 ?_
  refine callsIn_of_wp_marks Try.func37 rfl trivial ?_ rfl
  simp only [Try.ntmps37, List.size_toArray, List.length_cons, List.length_nil, Nat.reduceAdd, Nat.reduceSub, Array.replicate_succ, Array.replicate_zero, List.push_toArray, List.append_toArray, List.nil_append, List.cons_append]
  gi_wp2_with fail
  have bO := Boxed.new w 24 (.slice ao l0.length c)
  have hql := hq.lt
  have hB0 : Below n0 w (w.alloc (.cells #[.slice ao l0.length c] 24)) := (Below.refl _ w).alloc hn0 _
  refine wpIn_rangeFunc_ownH (F := Fence.wide) rfl (by decide) (gf := gf) (lb := lb) rfl trivial heg
    (hseq 5 (by decide)) (fun h k => h.t k) (KpS.b (by simp; omega) (by simp; omega)) (below_alloc w _) (fun _ => rfl)
    (fun pre W => (∃ v, Boxed W w.heap.size 24 v ∧ W.ownsRow n0 43 11 v (l0 ++ pre).length (prtCs (l0 ++ pre)) ∧ True) ∧ Below n0 w W ∧ Boxed W q2 69 fo)
    (fun _ _ _ => False)
    (OwnFrom.and (Own.from (holdsRow_own n0 w.heap.size 24 43 11 (fun pre => (l0 ++ pre).length) (fun pre => prtCs (l0 ++ pre)) (fun _ _ => True)) _) (OwnFrom.and (ownFrom_below hn0 (by simp; omega)) (Own.from (boxed_own _ _ _) _)))
    (fun _ _ _ _ _ hs _ _ => hs)
    ⟨⟨_, bO, by rw [List.append_nil]; exact hown.alloc _, trivial⟩, hB0, hq.alloc _⟩
    (fun x a' W => ∃ q, Bx W q #[.int .i64 x.v.k, .int .i64 x.v.n, .string x.v.s, .int .i64 x.d.dev, .int .i64 x.d.seq, .int .i64 x.at_, .int .i64 x.tm, .int .i64 x.aft.dev, .int .i64 x.aft.seq, .int .i64 x.aat, .bool x.gone] 43 ∧ a' = { tmps := #[.slice ao l0.length c, .func (.func gf) #[] lb, .pointer (some ⟨w.heap.size, 0, none⟩), undef, .slice none 0 0, .pointer (some ⟨q, 0, none⟩), .func (.func gf) #[] lb, x.agg, undef, undef, undef, undef, undef], defers := [] })
    (fun x a' _ X Y row hs hg hr => by obtain ⟨q, h1, h2⟩ := hs; exact ⟨q, bx_kept h1 hg (fun r e => (hr r e).2), h2⟩)
    ?assign ?body ?done ?stop
  case assign =>
    rintro l pre x W K ⟨⟨v, hv, hrow, -⟩, hB, hF⟩ hK
    gi_wp2_with fail
    have hsz := hB.size
    exact hK _ _ ((KeepsOthers.alloc _ _).from _) ⟨(Below.refl _ W).alloc (Nat.le_trans hn0 hsz) _, fun e => (Below.heap_alloc W _ _ (Array.getElem?_eq_some_iff.1 e).1).trans e⟩ ⟨⟨v, hv.alloc _, hrow.alloc _, trivial⟩, hB.alloc (Nat.le_trans hn0 hsz) _, hF.alloc _⟩ ⟨W.heap.size, bx_new rfl, rfl⟩
  case body =>
    rintro l pre x a' W hl ⟨r, hr⟩ ⟨⟨v, hv, hrow, -⟩, hB, hF⟩ ⟨q, hX, rfl⟩ hlt
    have hc := hv.cell
    have e0 := cell_of_box hX 0 rfl
    have e1 := cell_of_box hX 1 rfl
    have e2 := cell_of_box hX 2 rfl
    have e3 := cell_of_box hX 3 rfl
    have e4 := cell_of_box hX 4 rfl
    have e5 := cell_of_box hX 5 rfl
    have e6 := cell_of_box hX 6 rfl
    have e7 := cell_of_box hX 7 rfl
    have e8 := cell_of_box hX 8 rfl
    have e9 := cell_of_box hX 9 rfl
    have e10 := cell_of_box hX 10 rfl
    have hpl : (l0 ++ pre).length + 1 ≤ 1000000 := by rw [List.length_append]; omega
    obtain ⟨kk, hkk⟩ : ∃ kk, (l0 ++ pre).length = kk := ⟨_, rfl⟩
    rw [hkk] at hpl hrow
    have HKK := Lib.hid hkk
    clear hkk
    gi_wp2_with (gi_at_builtin; refine wpListIn_append_own _ rfl _ _ 24 rfl n0 43 i0 _ 11 96 elP.ty hi hz0 hz1 hz2 elP.zs (by decide) _ _ _ rfl (hrow.alloc _) ⟨W.heap.size, 0, none⟩ 1 1 (enP x) rfl rfl (cells_one W #[.int .i64 x.v.k, .int .i64 x.v.n, .string x.v.s, .int .i64 x.d.dev, .int .i64 x.d.seq, .int .i64 x.at_, .int .i64 x.tm, .int .i64 x.aft.dev, .int .i64 x.aft.seq, .int .i64 x.aat, .bool x.gone] 43) (fun u hu => oneP [x] u (by simpa [prtCs] using hu)) (by simp only [maxLen]; omega) (by omega) (by have := hB.size; simp; omega) ?_; intro v' w1' hown' hgrow _; obtain ⟨g', cap', rfl⟩ := ownsRow_succ hown'; obtain ⟨hv1, hv2, hr2, hk2, hb2⟩ := hv.appended (by decide) hrow (Nat.le_trans hn0 hB.size) hn0 hown' hgrow; have hF2 := Boxed.other (B' := w.heap.size) ((hF.alloc _).kept hgrow (hF.not_row (by decide) hrow)) (by omega) (.slice (some ⟨g', 0, none⟩) (kk + 1) cap'); have hc1 := hv1.cell; have hf1 := hv1.frozen)
    exact ⟨hk2.from _, ⟨hb2, fun _ => hF2⟩, ⟨_, hv2, by rw [← List.append_assoc, prtCs_snoc, List.length_append, HKK.out]; exact hr2, trivial⟩, hB.trans hb2, hF2⟩
  case done =>
    rintro D ys W hD rfl ⟨⟨v, hv, hrow, -⟩, hB, hF⟩ hK
    have hc := hv.cell
    gi_wp2_with fail
    refine ⟨by simp, .inl ⟨_, _, rfl, run_takeDeferred hK, ?_⟩⟩
    exact ⟨_, results_tmp rfl _ _ _, v, rfl, ownsRow_putObj hrow _ hK rfl, hB.trans (belowK_b (w := w) hn0 W D _ _ (by simp at hD; omega) hK rfl rfl)⟩
  case stop =>
    rintro D c pre W _ _ h _
    exact h.elim

theorem collect_any {gf : Nat} {lb : Array Value} (heg : ∀ args w, (callFunc gf args).run Try.prog w = .ok (.enter gf args) w) (n0 q2 : Nat) (fo : Value) (L : List Prt) (N : Nat) (w : World)
    (hseq : ∀ m, 2 ≤ m → SeqStopsK Fence.wide m Try.prog gf lb (fun x : Prt => #[x.agg]) (KpS n0 q2 (.cells #[fo] 69 (0, 0))) (fun ys => ys = L) (fun _ => True) N w)
    (hn0 : n0 ≤ w.heap.size) (hq : Boxed w q2 69 fo) (hN : N ≤ 1000000) :
    Calls Try.prog 32 #[.func (.func gf) #[] lb] w (SeqPost n0 w L) := by
  have HC := Lib.hid (appendSeq_any heg n0 q2 fo (.slice none 0 0) [] L N w hseq (World.ownsRow_nil _ _ _ _) hn0 hq (by simpa using hN))
  clear hseq heg hq hN
  go_enter Try.func32, Try.ntmps32
  go_wp2_with fail
  refine HC.out.mono ?_
  rintro e w1 ⟨v, rfl, ho, hb⟩
  have HO := Lib.hid ho
  have HB := Lib.hid hb
  clear ho hb HC
  go_wp2_with fail
  go_ret
  exact ⟨_, rfl, HO.out, HB.out⟩
end Go.Proofs.Ytnpciogpegmejaa
