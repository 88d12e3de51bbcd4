/-
  Layer 7 (multi): what the closures ask; Write. (printed by tools/gen_mw.py)
-/
import Derived.Test.YtagbaejgjhmokaaMK
import Derived.Shelf.Abstract
namespace Go.Proofs.Ytagbaejgjhmokaa
open Go.RowKit Go.Sort Go.BigFrame

theorem eqD (a b : Dt) : (a.dev == b.dev && a.seq == b.seq) = decide (a = b) := by
  obtain ⟨x, y⟩ := a
  obtain ⟨x', y'⟩ := b
  rw [Bool.eq_iff_iff]
  simp

/-- A dot in a box; a slice of numbers in a box. -/
def DotAt (w : World) (q : Nat) (d : Dt) : Prop := w.cell? ⟨q, 0, none⟩ = some (.int .i64 d.dev) ∧ w.cell? ⟨q, 1, none⟩ = some (.int .i64 d.seq)
def VecAt (w : World) (q : Nat) (l : List Int) : Prop := ∃ ao n c, w.cell? ⟨q, 0, none⟩ = some (.slice ao n c) ∧ Rd w (.slice ao n c) l.length (l.map ic)
theorem DotAt.later {w w' : World} {q : Nat} {d : Dt} (h : DotAt w q d) (hb : Below w.heap.size w w') : DotAt w' q d := ⟨cell_later hb h.1, cell_later hb h.2⟩
theorem VecAt.later {w w' : World} {q : Nat} {l : List Int} (h : VecAt w q l) (hb : Below w.heap.size w w') : VecAt w' q l := by
  obtain ⟨ao, n, c, h1, h2⟩ := h
  exact ⟨ao, n, c, cell_later hb h1, h2.later hb⟩

set_option maxRecDepth 100000 in
set_option maxHeartbeats 1000000 in
theorem has1_any (x : Prt) (d : Dt) (q : Nat) (w : World) (h : DotAt w q d) :
    Calls Try.prog 58 #[x.agg, .pointer (some ⟨q, 0, none⟩)] w fun e w' => e = .returned (.bool (decide (x.d = d))) ∧ Below w.heap.size w w' := by
  have HU := Lib.hid (eqD x.d d)
  obtain ⟨h0, h1⟩ := h
  have g0 := cell_later (below_alloc w (.cells #[.int .i64 x.v.k, .int .i64 x.v.n, .string x.v.s, .int .i64 x.d.dev, .int .i64 x.d.seq, .int .i64 x.at_, .int .i64 x.tm, .int .i64 x.aft.dev, .int .i64 x.aft.seq, .int .i64 x.aat, .bool x.gone] 32)) h0
  have g1 := cell_later (below_alloc w (.cells #[.int .i64 x.v.k, .int .i64 x.v.n, .string x.v.s, .int .i64 x.d.dev, .int .i64 x.d.seq, .int .i64 x.at_, .int .i64 x.tm, .int .i64 x.aft.dev, .int .i64 x.aft.seq, .int .i64 x.aat, .bool x.gone] 32)) h1
  have HB := Lib.hid (below_alloc w (.cells #[.int .i64 x.v.k, .int .i64 x.v.n, .string x.v.s, .int .i64 x.d.dev, .int .i64 x.d.seq, .int .i64 x.at_, .int .i64 x.tm, .int .i64 x.aft.dev, .int .i64 x.aft.seq, .int .i64 x.aat, .bool x.gone] 32))
  cases e1 : (x.d.dev == d.dev)
  all_goals
    cases e2 : (x.d.seq == d.seq)
    all_goals
      have E1 := Lib.hid e1
      have E2 := Lib.hid e2
      go_enter Try.func58, Try.ntmps58
      go_wp2
      go_ret
      exact ⟨ret_bool (by rw [← HU.out, E1.out, E2.out]; rfl), HB.out⟩

theorem has_test (w : World) (d : Dt) (q : Nat) (h : DotAt w q d) : TestP w 58 #[.pointer (some ⟨q, 0, none⟩)] (fun p => decide (p.d = d)) :=
  ⟨enters_of Try.func58 (by kernel_rfl) rfl, fun x W hb => has1_any x d q W (h.later hb)⟩

set_option maxRecDepth 100000 in
set_option maxHeartbeats 1000000 in
theorem mhas_any (v : Value) (l : List Prt) (d : Dt) (w : World) (h : PRd w v l) (hn : l.length ≤ 1000000) :
    Calls Try.prog 40 #[v, d.agg] w fun e w' => e = .returned (.bool (hasP l d)) ∧ Below w.heap.size w w' := by
  have hb := below_alloc w (.cells #[.int .i64 d.dev, .int .i64 d.seq] 30)
  have hd : DotAt (w.alloc (.cells #[.int .i64 d.dev, .int .i64 d.seq] 30)) w.heap.size d := ⟨by simp [go_sem], by simp [go_sem]⟩
  have HC := Lib.hid (containsP_any v l _ (has_test _ d _ hd) (h.later hb) hn)
  have HB := Lib.hid hb
  obtain ⟨ao, c, rfl, _⟩ := id h
  clear h hb hd hn
  go_enter Try.func40, Try.ntmps40
  go_wp2_with fail
  refine HC.out.mono ?_
  rintro e w1 ⟨rfl, hb1⟩
  have HB1 := Lib.hid (below_then HB.out hb1)
  clear hb1 HC
  go_wp2_with fail
  go_ret
  exact ⟨rfl, HB1.out⟩

/-- Which parts a write keeps. -/
def keepW (d : Dt) (knew : List Int) (p : Prt) : Bool := !decide (p.d = d) && !hasV knew p.d

set_option maxRecDepth 100000 in
set_option maxHeartbeats 1000000 in
theorem write1_any (x : Prt) (d : Dt) (knew : List Int) (q r : Nat) (w : World) (h : DotAt w q d) (hv : VecAt w r knew) :
    Calls Try.prog 36 #[x.agg, .pointer (some ⟨q, 0, none⟩), .pointer (some ⟨r, 0, none⟩)] w fun e w' => e = .returned (.bool (keepW d knew x)) ∧ Below w.heap.size w w' := by
  obtain ⟨xv, ⟨a, b⟩, xa, xt, xf, xaa, xg⟩ := x
  obtain ⟨a', b'⟩ := d
  obtain ⟨h0, h1⟩ := h
  obtain ⟨ao, n, c, h2, h3⟩ := hv
  have hb := below_alloc w (.cells #[.int .i64 xv.k, .int .i64 xv.n, .string xv.s, .int .i64 a, .int .i64 b, .int .i64 xa, .int .i64 xt, .int .i64 xf.dev, .int .i64 xf.seq, .int .i64 xaa, .bool xg] 32)
  have g0 := cell_later hb h0
  have g1 := cell_later hb h1
  have g2 := cell_later hb h2
  have HB := Lib.hid hb
  have HV := Lib.hid (h3.later hb)
  clear h0 h1 h2 h3 hb
  by_cases e1 : a = a'
  · subst e1
    by_cases e2 : b = b'
    · subst e2
      have hk : keepW ⟨a, b⟩ knew ⟨xv, ⟨a, b⟩, xa, xt, xf, xaa, xg⟩ = false := by unfold keepW; rw [decide_eq_true rfl]; rfl
      have HK := Lib.hid hk
      clear hk
      go_enter Try.func36, Try.ntmps36
      go_wp2_with fail
      go_ret
      exact ⟨ret_bool HK.out.symm, HB.out⟩
    · have hk : keepW ⟨a, b'⟩ knew ⟨xv, ⟨a, b⟩, xa, xt, xf, xaa, xg⟩ = !hasV knew ⟨a, b⟩ := by unfold keepW; rw [decide_eq_false (by simpa using e2)]; rfl
      have HK := Lib.hid hk
      have e3 : (b == b') = false := by simpa using e2
      clear hk e2
      go_enter Try.func36, Try.ntmps36
      go_wp2_with fail
      refine (hasV_any _ knew ⟨a, b⟩ _ HV.out).mono ?_
      rintro e w1 ⟨rfl, hb1⟩
      have HB1 := Lib.hid (below_then HB.out hb1)
      clear hb1
      go_wp2_with fail
      go_ret
      exact ⟨ret_bool HK.out.symm, HB1.out⟩
  · have hk : keepW ⟨a', b'⟩ knew ⟨xv, ⟨a, b⟩, xa, xt, xf, xaa, xg⟩ = !hasV knew ⟨a, b⟩ := by unfold keepW; rw [decide_eq_false (by intro h; cases h; exact e1 rfl)]; rfl
    have HK := Lib.hid hk
    have e3 : (a == a') = false := by simpa using e1
    clear hk e1
    go_enter Try.func36, Try.ntmps36
    go_wp2_with fail
    refine (hasV_any _ knew ⟨a, b⟩ _ HV.out).mono ?_
    rintro e w1 ⟨rfl, hb1⟩
    have HB1 := Lib.hid (below_then HB.out hb1)
    clear hb1
    go_wp2_with fail
    go_ret
    exact ⟨ret_bool HK.out.symm, HB1.out⟩

theorem write_test (w : World) (d : Dt) (knew : List Int) (q r : Nat) (h : DotAt w q d) (hv : VecAt w r knew) : TestP w 36 #[.pointer (some ⟨q, 0, none⟩), .pointer (some ⟨r, 0, none⟩)] (keepW d knew) :=
  ⟨enters_of Try.func36 (by kernel_rfl) rfl, fun x W hb => write1_any x d knew q r W (h.later hb) (hv.later hb)⟩
end Go.Proofs.Ytagbaejgjhmokaa
