/-
  Layer 24 (zset): items in memory; which of two stands ahead; a copy of them.
-/
import Derived.Test.YtgmemdhbnnhifaaIT
import Derived.Test.YtgmemdhbnnhifaaLG
namespace Go.Proofs.Ytgmemdhbnnhifaa
open Go.RowKit Go.Sort Go.BigFrame

def itCs (l : List It) : List Value := l.flatMap enI

theorem itCs_length (l : List It) : (itCs l).length = l.length * 3 := by
  induction l with
  | nil => rfl
  | cons a l ih =>
    have : itCs (a :: l) = enI a ++ itCs l := rfl
    rw [this, List.length_append, ih, List.length_cons]
    simp [enI]; omega

theorem itCs_app (l m : List It) : itCs (l ++ m) = itCs l ++ itCs m := by simp [itCs]

theorem itCs_at (l : List It) (k : Nat) (hk : k < l.length) : (itCs l)[k * 3]? = some (.slice l[k].ra l[k].rn l[k].rc) ∧ (itCs l)[k * 3 + 1]? = some (.int .i64 l[k].many) ∧ (itCs l)[k * 3 + 2]? = some (.slice l[k].ba l[k].bn l[k].bc) := by
  induction l generalizing k with
  | nil => cases hk
  | cons a l ih =>
    have he : itCs (a :: l) = enI a ++ itCs l := rfl
    have hc : (enI a).length = 3 := rfl
    cases k with
    | zero => exact ⟨rfl, rfl, rfl⟩
    | succ k =>
      have := ih k (by simpa using hk)
      rw [he]
      refine ⟨?_, ?_, ?_⟩
      · rw [List.getElem?_append_right (by omega)]; rw [show (k + 1) * 3 - (enI a).length = k * 3 by omega]; exact this.1
      · rw [List.getElem?_append_right (by omega)]; rw [show (k + 1) * 3 + 1 - (enI a).length = k * 3 + 1 by omega]; exact this.2.1
      · rw [List.getElem?_append_right (by omega)]; rw [show (k + 1) * 3 + 2 - (enI a).length = k * 3 + 2 by omega]; exact this.2.2

theorem elIt : El Try.prog 22 39 3 56 (.agg #[.slice none 0 0, .int .i64 0, .slice none 0 0]) := El.mk' (by kernel_rfl) (by kernel_rfl) rfl (by decide)

/-- The place of an item in a slice. -/
theorem rd_it {w : World} {ao : Option Addr} {n c : Nat} {l : List It} (h : Rd w (.slice ao n c) n (itCs l)) (hl : n = l.length) (k : Nat) (hk : k < l.length) :
    ∃ b o : Nat, (∀ W, (Instr.indexAt 22 (.slice ao n c) (.int .i64 (k : Int))).run Try.prog W = .ok (.pointer (some ⟨b, o, none⟩)) W) ∧ w.cell? ⟨b, o, none⟩ = some (.slice l[k].ra l[k].rn l[k].rc) ∧ w.cell? ⟨b, o + 1, none⟩ = some (.int .i64 l[k].many) ∧ w.cell? ⟨b, o + 2, none⟩ = some (.slice l[k].ba l[k].bn l[k].bc) ∧ b < w.heap.size := by
  subst hl
  obtain ⟨A, hA, _, hlt, hc⟩ := h.elem 3 k hk (itCs_length l) (by decide)
  obtain ⟨r0, r1, r2⟩ := itCs_at l k hk
  obtain ⟨u0, hu0, hc0⟩ := hc 0 (by decide)
  obtain ⟨u1, hu1, hc1⟩ := hc 1 (by decide)
  obtain ⟨u2, hu2, hc2⟩ := hc 2 (by decide)
  rw [Nat.add_zero, r0] at hu0
  rw [r1] at hu1
  rw [r2] at hu2
  cases hu0
  cases hu1
  cases hu2
  obtain ⟨b, o, s⟩ := A
  have hs : s = none := World.cell?_spot hc0
  subst hs
  exact ⟨b, o, fun W => run_indexAt_at elIt hA hk W, hc0, hc1, hc2, hlt⟩

/-- The item's row lies in memory. -/
def Vit (w : World) (x : It) : Prop := Rd w (.slice x.ra x.rn x.rc) x.row.length (rowCs x.row)
theorem Vit.later {w w' : World} {x : It} (h : Vit w x) (hb : Below w.heap.size w w') : Vit w' x := Rd.later h hb

/-- Items in memory. -/
def IRd (w : World) (v : Value) (l : List It) : Prop := Rd w v l.length (itCs l) ∧ ∀ x ∈ l, Vit w x
theorem IRd.later {w w' : World} {v : Value} {l : List It} (h : IRd w v l) (hb : Below w.heap.size w w') : IRd w' v l := ⟨h.1.later hb, fun x hx => (h.2 x hx).later hb⟩

def cmpIt (x y : It) : Int := if lessR x.row y.row then -1 else if lessR y.row x.row then 1 else 0

set_option maxRecDepth 100000 in
set_option maxHeartbeats 1000000 in
theorem sorted1_any (x y : It) (w : World) (hx : Vit w x) (hy : Vit w y) :
    Calls Try.prog 45 #[x.agg, y.agg] w fun e w' => e = .returned (.int .i64 (cmpIt x y)) ∧ Below w.heap.size w w' := by
  have HX := Lib.hid hx
  have HY := Lib.hid hy
  clear hx hy
  have HB := Lib.hid (below_alloc_then (below_alloc (w.alloc (.cells #[.slice x.ra x.rn x.rc, .int .i64 x.many, .slice x.ba x.bn x.bc] 39)) (.cells #[.slice y.ra y.rn y.rc, .int .i64 y.many, .slice y.ba y.bn y.bc] 39)))
  have c0 : ((w.alloc (.cells #[.slice x.ra x.rn x.rc, .int .i64 x.many, .slice x.ba x.bn x.bc] 39)).alloc (.cells #[.slice y.ra y.rn y.rc, .int .i64 y.many, .slice y.ba y.bn y.bc] 39)).cell? ⟨w.heap.size, 0, none⟩ = some (.slice x.ra x.rn x.rc) := by simp [go_sem]
  have d0 : ((w.alloc (.cells #[.slice x.ra x.rn x.rc, .int .i64 x.many, .slice x.ba x.bn x.bc] 39)).alloc (.cells #[.slice y.ra y.rn y.rc, .int .i64 y.many, .slice y.ba y.bn y.bc] 39)).cell? ⟨w.heap.size + 1, 0, none⟩ = some (.slice y.ra y.rn y.rc) := by simp [go_sem]
  cases h1 : lessR x.row y.row
  · cases h2 : lessR y.row x.row
    · have hc : cmpIt x y = 0 := by simp [cmpIt, h1, h2]
      rw [hc]
      have H1 := Lib.hid h1
      have H2 := Lib.hid h2
      clear h1 h2 hc
      go_enter Try.func45, Try.ntmps45
      go_wp2_with fail
      generalize (w.alloc (.cells #[.slice x.ra x.rn x.rc, .int .i64 x.many, .slice x.ba x.bn x.bc] 39)).alloc (.cells #[.slice y.ra y.rn y.rc, .int .i64 y.many, .slice y.ba y.bn y.bc] 39) = w1 at *
      refine (lessR_any _ _ x.row y.row _ (HX.out.later HB.out) (HY.out.later HB.out)).mono ?_
      rintro e w2 ⟨rfl, hb⟩
      rw [H1.out]
      replace c0 := cell_later hb c0
      replace d0 := cell_later hb d0
      have HB2 := Lib.hid (below_then HB.out hb)
      clear hb
      go_wp2_with fail
      refine (lessR_any _ _ y.row x.row _ (HY.out.later HB2.out) (HX.out.later HB2.out)).mono ?_
      rintro e w3 ⟨rfl, hb⟩
      rw [H2.out]
      have HB3 := Lib.hid (below_then HB2.out hb)
      clear hb
      go_wp2_with fail
      go_ret
      exact ⟨rfl, HB3.out⟩
    · have hc : cmpIt x y = 1 := by simp [cmpIt, h1, h2]
      rw [hc]
      have H1 := Lib.hid h1
      have H2 := Lib.hid h2
      clear h1 h2 hc
      go_enter Try.func45, Try.ntmps45
      go_wp2_with fail
      generalize (w.alloc (.cells #[.slice x.ra x.rn x.rc, .int .i64 x.many, .slice x.ba x.bn x.bc] 39)).alloc (.cells #[.slice y.ra y.rn y.rc, .int .i64 y.many, .slice y.ba y.bn y.bc] 39) = w1 at *
      refine (lessR_any _ _ x.row y.row _ (HX.out.later HB.out) (HY.out.later HB.out)).mono ?_
      rintro e w2 ⟨rfl, hb⟩
      rw [H1.out]
      replace c0 := cell_later hb c0
      replace d0 := cell_later hb d0
      have HB2 := Lib.hid (below_then HB.out hb)
      clear hb
      go_wp2_with fail
      refine (lessR_any _ _ y.row x.row _ (HY.out.later HB2.out) (HX.out.later HB2.out)).mono ?_
      rintro e w3 ⟨rfl, hb⟩
      rw [H2.out]
      have HB3 := Lib.hid (below_then HB2.out hb)
      clear hb
      go_wp2_with fail
      go_ret
      exact ⟨rfl, HB3.out⟩
  · have hc : cmpIt x y = -1 := by simp [cmpIt, h1]
    rw [hc]
    have H1 := Lib.hid h1
    clear h1 hc
    go_enter Try.func45, Try.ntmps45
    go_wp2_with fail
    generalize (w.alloc (.cells #[.slice x.ra x.rn x.rc, .int .i64 x.many, .slice x.ba x.bn x.bc] 39)).alloc (.cells #[.slice y.ra y.rn y.rc, .int .i64 y.many, .slice y.ba y.bn y.bc] 39) = w1 at *
    refine (lessR_any _ _ x.row y.row _ (HX.out.later HB.out) (HY.out.later HB.out)).mono ?_
    rintro e w2 ⟨rfl, hb⟩
    rw [H1.out]
    have HB2 := Lib.hid (below_then HB.out hb)
    clear hb
    go_wp2_with fail
    go_ret
    exact ⟨rfl, HB2.out⟩
end Go.Proofs.Ytgmemdhbnnhifaa
