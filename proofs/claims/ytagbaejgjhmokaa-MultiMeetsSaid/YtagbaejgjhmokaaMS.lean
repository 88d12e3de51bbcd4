/-
  Parts sorted. (printed by tools/gen_ms.py)
-/
import Derived.Test.YtagbaejgjhmokaaSFp
import Derived.Test.YtagbaejgjhmokaaMX
namespace Go.Proofs.Ytagbaejgjhmokaa
open Go.RowKit Go.Sort Go.BigFrame

theorem flat_prt (l : List Prt) (j : Nat) (hj : j < l.length * 11) : (prtCs l)[j]? = some ((flatK enP 11 l.toArray)[j]!) := by
  have hi : j / 11 < l.length := by omega
  have h := prtCs_at l (j / 11) hi (j % 11) (by omega)
  rw [show j / 11 * 11 + j % 11 = j by omega] at h
  rw [h, get_flatK _ _ _ _ (by simpa using hj)]
  have hg : l.toArray[j / 11]! = l[j / 11] := by
    rw [getElem!_pos l.toArray (j / 11) (by simpa using hi)]; simp
  rw [hg]
  have hl : j % 11 < (enP l[j / 11]).length := by
    show j % 11 < 11
    omega
  rw [List.getElem?_eq_getElem hl, getElem!_pos (enP l[j / 11]) (j % 11) hl]

theorem holds_ownP {w : World} {B g cap : Nat} {l : List Prt} {T : TypeId} (h : w.ownsRow B T 11 (.slice (some ⟨g, 0, none⟩) l.length cap) l.length (prtCs l)) : HoldsK enP 11 w g 0 l.toArray := by
  intro j hj
  rw [size_flatK] at hj
  have hj' : j < l.length * 11 := by simpa using hj
  have hc := h.cellAt j hj'
  have hf := h.frozenAt j
  rw [Nat.zero_add, hc, flat_prt l j hj']
  exact ⟨rfl, hf⟩

theorem SB.rdP {w0 : World} {blk n : Nat} {l0 l : List Prt} {W : World} (h : SB enP 11 w0 blk 0 l W) (R : Rw enP 11 w0 blk 0 n l0) (hl : l.length = n) {cap : Nat} (hcap : n ≤ cap) (hcm : cap ≤ maxLen) : Rd W (.slice (some ⟨blk, 0, none⟩) n cap) n (prtCs l) := by
  refine ⟨_, _, rfl, hcap, hcm, (fun h => nomatch h), fun a ha => ?_⟩
  cases ha
  intro j u hj
  have hj' : j < l.length * 11 := by
    rw [← prtCs_length]
    rcases Nat.lt_or_ge j (prtCs l).length with h | h
    · exact h
    · rw [List.getElem?_eq_none h] at hj; cases hj
  have h1 := h.holds R hl j (by rw [size_flatK]; simpa using hj')
  rw [flat_prt l j hj'] at hj
  cases hj
  rw [Addr.add_lit]
  exact h1.1

set_option maxRecDepth 100000 in
theorem insertion_nil (f : Value) (w : World) : Calls Try.prog 66 #[.slice none 0 0, .int .i64 0, .int .i64 0, f] w fun e w' => e = .returned (.tuple #[]) ∧ w = w' := by
  go_enter Try.func66, Try.ntmps66
  go_wp2
  go_loop [8] (fun vi => vi = .int .i64 1) (fun _ => 0)
  case atStart => rfl
  case round =>
    obtain rfl := hrel
    go_wp2
    go_end0
    exact ⟨rfl, rfl⟩

set_option maxRecDepth 100000 in
theorem stable_nil (f : Value) (w : World) : Calls Try.prog 59 #[.slice none 0 0, .int .i64 0, f] w fun e w' => e = .returned (.tuple #[]) ∧ w = w' := by
  go_enter Try.func59, Try.ntmps59
  go_wp2
  go_loop [7, 8] (fun va vb => va = .int .i64 0 ∧ vb = .int .i64 20) (fun _ _ => 0)
  case atStart => exact ⟨rfl, rfl⟩
  case round =>
    obtain ⟨rfl, rfl⟩ := hrel
    go_wp2_with fail
    refine (insertion_nil _ _).mono ?_
    rintro e w' ⟨rfl, rfl⟩
    go_wp2_with fail
    go_loop [6] (fun vs => vs = .int .i64 20) (fun _ => 0)
    case atStart => rfl
    case round =>
      obtain rfl := hrel
      go_wp2
      go_end0
      exact ⟨rfl, rfl⟩


/-- What a comparison of parts is asked. -/
def SortPostP (wa : World) (v : Value) (l : List Prt) (w : World) (e : Ending) (w' : World) : Prop := e = .returned (.tuple #[]) ∧ Rd w' v l.length (prtCs (isortL ltP l)) ∧ Below wa.heap.size wa w' ∧ w.heap.size ≤ w'.heap.size

set_option maxRecDepth 100000 in
set_option maxHeartbeats 1000000 in
theorem sortP_any (g0 : Nat) (wa : World) (B : Nat) (v : Value) (l : List Prt) (w : World) (hown : w.ownsRow B 32 11 v l.length (prtCs l)) (hab : Below wa.heap.size wa w) (hB : wa.heap.size ≤ B) (hn : l.length ≤ 1000000)
    (heg : ∀ args w, (callFunc g0 args).run Try.prog w = .ok (.enter g0 args) w) (cf : Prt → Prt → Int) (hcf : ltC cf = ltP)
    (hcmp : ∀ (x y : Prt) (W : World), Calls Try.prog g0 #[x.agg, y.agg] W fun e w' => e = .returned (.int .i64 (cf x y)) ∧ Below W.heap.size W w') :
    Calls Try.prog 42 #[v, .func (.func g0) #[] #[]] w (SortPostP wa v l w) := by
  have hc : Calls Try.prog 59 #[v, .int .i64 l.length, .func (.func g0) #[] #[]] w (SortPostP wa v l w) := by
    rcases hown.2 with ⟨rfl, hnil⟩ | ⟨g, cap, cur, rfl, hbg, hg, hnc, hcm, hcs, htake⟩
    · have hl : l = [] := by
        have := hown.1
        rw [hnil] at this
        exact List.eq_nil_of_length_eq_zero (by simp at this; omega)
      subst hl
      refine (stable_nil _ w).mono ?_
      rintro e w' ⟨rfl, rfl⟩
      exact ⟨rfl, ⟨none, 0, rfl, Nat.le_refl _, Nat.zero_le _, fun _ => rfl, fun a ha => by cases ha⟩, hab, Nat.le_refl _⟩
    · have hrow : Rw enP 11 w g 0 l.length l := ⟨fun _ => rfl, fun x u hu => oneP [x] u (by simpa [prtCs] using hu), holds_ownP hown, (Array.getElem?_eq_some_iff.1 hg).1, rfl⟩
      have hC : CmpOk g0 #[] cf (fun _ => True) w g 0 l.length l := by
        refine ⟨hrow, hn, heg, ?_, by rw [hcf]; exact swoP⟩
        intro l' W hl' hsb x y hx hy
        exact hcmp x y W
      refine (stable_any hC (fun _ _ => trivial) w hrow.start cap).mono ?_
      rintro e w' ⟨rfl, hs⟩
      rw [hcf] at hs
      refine ⟨rfl, hs.rdP hrow (isortL_length _) hnc hcm, hs.old hab (by omega), hs.le⟩
  have HC := Lib.hid hc
  obtain ⟨ao, cap, rfl, _⟩ := Rd.of_own hown
  clear hc hown hab hB heg hcmp
  go_enter Try.func42, Try.ntmps42
  go_wp2_with fail
  refine HC.out.mono ?_
  rintro e w' ⟨rfl, h⟩
  have H := Lib.hid h
  clear h
  go_wp2_with fail
  go_end0
  exact ⟨rfl, H.out⟩
end Go.Proofs.Ytagbaejgjhmokaa
