/-
  Parts sorted, by whatever order. (printed by tools/gen_gl.py)
-/
import Derived.Test.YtnpciogpegmejaaGB
namespace Go.Proofs.Ytnpciogpegmejaa
open Go.RowKit Go.Sort Go.BigFrame

/-- What a comparison of parts is asked. -/
def SortPostQ (lt : Prt → Prt → Bool) (wa : World) (v : Value) (l : List Prt) (w : World) (e : Ending) (w' : World) : Prop := e = .returned (.tuple #[]) ∧ Rd w' v l.length (prtCs (isortL lt l)) ∧ Below wa.heap.size wa w' ∧ w.heap.size ≤ w'.heap.size

set_option maxRecDepth 100000 in
set_option maxHeartbeats 1000000 in
theorem sortQ_any {lt : Prt → Prt → Bool} (hsw : SWO lt) (g0 : Nat) (wa : World) (B : Nat) (v : Value) (l : List Prt) (w : World) (hown : w.ownsRow B 43 11 v l.length (prtCs l)) (hab : Below wa.heap.size wa w) (hB : wa.heap.size ≤ B) (hn : l.length ≤ 1000000)
    (heg : ∀ args w, (callFunc g0 args).run Try.prog w = .ok (.enter g0 args) w) (cf : Prt → Prt → Int) (hcf : ltC cf = lt)
    (hcmp : ∀ (x y : Prt) (W : World), Calls Try.prog g0 #[x.agg, y.agg] W fun e w' => e = .returned (.int .i64 (cf x y)) ∧ Below W.heap.size W w') :
    Calls Try.prog 39 #[v, .func (.func g0) #[] #[]] w (SortPostQ lt wa v l w) := by
  have hc : Calls Try.prog 59 #[v, .int .i64 l.length, .func (.func g0) #[] #[]] w (SortPostQ lt wa v l w) := by
    rcases hown.2 with ⟨rfl, hnil⟩ | ⟨g, cap, cur, rfl, hbg, hg, hnc, hcm, hcs, htake⟩
    · have hl : l = [] := by
        have := hown.1
        rw [hnil] at this
        exact List.eq_nil_of_length_eq_zero (by simp at this; omega)
      subst hl
      refine (stable_nil _ w).mono ?_
      rintro e w' ⟨rfl, rfl⟩
      exact ⟨rfl, ⟨none, 0, rfl, Nat.le_refl _, Nat.zero_le _, fun _ => rfl, fun a ha => by cases ha⟩, hab, Nat.le_refl _⟩
    · have hrow : Rw enP 11 w g 0 l.length l := ⟨fun _ => rfl, fun x u hu => oneP [x] u (by simpa [prtCs] using hu), holds_ownP hown, (Array.getElem?_eq_some_iff.1 hg).1, rfl⟩
      have hC : CmpOk g0 #[] cf (fun _ => True) w g 0 l.length l := by
        refine ⟨hrow, hn, heg, ?_, by rw [hcf]; exact hsw⟩
        intro l' W hl' hsb x y hx hy
        exact hcmp x y W
      refine (stable_any hC (fun _ _ => trivial) w hrow.start cap).mono ?_
      rintro e w' ⟨rfl, hs⟩
      rw [hcf] at hs
      refine ⟨rfl, hs.rdP hrow (isortL_length _) hnc hcm, hs.old hab (by omega), hs.le⟩
  have HC := Lib.hid hc
  obtain ⟨ao, cap, rfl, _⟩ := Rd.of_own hown
  clear hc hown hab hB heg hcmp
  go_enter Try.func39, Try.ntmps39
  go_wp2_with fail
  refine HC.out.mono ?_
  rintro e w' ⟨rfl, h⟩
  have H := Lib.hid h
  clear h
  go_wp2_with fail
  go_end0
  exact ⟨rfl, H.out⟩
end Go.Proofs.Ytnpciogpegmejaa
