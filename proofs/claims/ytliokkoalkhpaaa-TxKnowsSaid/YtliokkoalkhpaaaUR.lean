/-
  Layer 17 (tx): the reader: must, some.
-/
import Derived.Test.YtliokkoalkhpaaaUA
import Derived.Test.YtliokkoalkhpaaaC1M
import Derived.Test.YtliokkoalkhpaaaRG
import Derived.WalkSmall
namespace Go.Proofs.Ytliokkoalkhpaaa
open Go.RowKit Go.Sort Go.BigFrame

/-- What a reader gives up with. -/
abbrev Amiss : List PanicEntry := [{ v := .iface 74 (.agg #[]), recovered := false }]
/-- A reader: a box that holds the bytes that are left. -/
def Rdr (w0 w : World) (g : Nat) (b : List UInt8) : Prop :=
  ∃ a n c, Bx w g #[.slice a n c] 77 ∧ Rd w0 (.slice a n c) n (b.map bc) ∧ n = b.length
/-- What a reader's method leaves. -/
def ReadP {α : Type} (w0 w : World) (g : Nat) (b : List UInt8) (d : List UInt8 → Option (α × Nat)) (R : World → Value → α → Prop) (e : Ending) (w' : World) : Prop :=
  But (fun k => k = g) w w' ∧ ((d b = none ∧ e = .panicked Amiss) ∨ ∃ v x k, d b = some (x, k) ∧ e = .returned v ∧ k ≤ b.length ∧ Rdr w0 w' g (b.drop k) ∧ R w' v x)

theorem must_true (p : Value) (w : World) : Calls Try.prog 40 #[p, .bool true] w fun e w' => e = .returned (.tuple #[]) ∧ w = w' := by
  go_enter Try.func40, Try.ntmps40
  go_wp2
  first | go_end0 | refine bodyPost_ret (results_none rfl _ _ _) rfl ?_
  exact ⟨rfl, rfl⟩
theorem must_false (p : Value) (w : World) : Calls Try.prog 40 #[p, .bool false] w fun e w' => e = .panicked Amiss ∧ w = w' := by
  go_enter Try.func40, Try.ntmps40
  go_wp2
  exact ⟨rfl, rfl, rfl⟩

theorem numsGet_no {v : Value} {b : List UInt8} {n : Nat} {w : World} (h : Rd w v n (b.map bc)) (hn : n = b.length) (hl : b.length ≤ 1000000000) (hg : getNums b = none) :
    Calls Try.prog 66 #[v] w fun e w' => e = .returned (.tuple #[.slice none 0 0, .int .i64 0, .int .i64 3]) ∧ Below w.heap.size w w' := by
  subst hn
  refine (getNums_any v b w h hl).mono ?_
  rintro e w' ⟨hb, ⟨_, rfl⟩ | ⟨v', l, k, he, _⟩⟩
  · exact ⟨rfl, hb⟩
  · rw [hg] at he; cases he
theorem numsGet_yes {v : Value} {b : List UInt8} {n : Nat} {w : World} (h : Rd w v n (b.map bc)) (hn : n = b.length) (hl : b.length ≤ 1000000000) {l : List Int} {k : Nat} (hg : getNums b = some (l, k)) :
    Calls Try.prog 66 #[v] w fun e w' => ∃ a c, e = .returned (.tuple #[.slice a l.length c, .int .i64 k, .int .i64 0]) ∧ w'.ownsRow w.heap.size 3 1 (.slice a l.length c) l.length (l.map ic) ∧ Below w.heap.size w w' := by
  subst hn
  refine (getNums_any v b w h hl).mono ?_
  rintro e w' ⟨hb, ⟨he, _⟩ | ⟨v', l', k', he, rfl, ho⟩⟩
  · rw [hg] at he; cases he
  · rw [hg] at he
    cases he
    obtain ⟨a, c, rfl, -⟩ := Rd.of_own ho
    exact ⟨a, c, rfl, ho, hb⟩

theorem bx_but {w w' : World} {g p : Nat} {T : TypeId} {cs : Array Value} (h : Bx w p cs T) (hb : But (fun k => k = g) w w') (hne : p ≠ g) : Bx w' p cs T := hb.blk h hne
theorem rdr_later {w0 w w' : World} {g : Nat} {b : List UInt8} (h : Rdr w0 w g b) (hb : Below w.heap.size w w') : Rdr w0 w' g b := by
  obtain ⟨a, n, c, h1, h2, h3⟩ := h
  exact ⟨a, n, c, bx_later hb h1, h2, h3⟩

theorem getL_takes {α : Type} {d : List UInt8 → Option (α × Nat)} (ht : Takes d) : Takes (getL d) := by
  intro b l i h
  unfold getL at h
  cases hg : get b with
  | none => rw [hg] at h; cases h
  | some q =>
    obtain ⟨n, k⟩ := q
    rw [hg] at h
    simp only at h
    split at h
    · cases h
    · cases hk : getKd d n.toNat (b.drop k) with
      | none => rw [hk] at h; cases h
      | some r =>
        obtain ⟨l', m⟩ := r
        rw [hk] at h
        cases h
        have h1 := getKd_le ht _ _ _ _ hk
        have h2 := get_takes _ _ _ hg
        rw [List.length_drop] at h1
        omega
theorem getNums_takes : Takes getNums := by
  have h := getL_takes get_takes
  have he : getL get = getNums := by funext b; rw [getNums_eq]
  rwa [he] at h
theorem onlyD_takes {α : Type} {d : List UInt8 → Option (α × Nat)} (p : α → Bool) (ht : Takes d) : Takes (onlyD p d) := by
  intro b x i h
  unfold onlyD at h
  cases h1 : d b with
  | none => rw [h1] at h; cases h
  | some q =>
    rw [h1] at h
    simp only at h
    split at h
    · cases h; exact ht _ _ _ h1
    · cases h
theorem sevenD_takes : Takes sevenD := onlyD_takes _ getNums_takes
/-- The box is set to what is left. -/
theorem rdr_set {w0 w : World} {g n c : Nat} {a : Option Addr} {b : List UInt8} (hq : Bx w g #[.slice a n c] 77) {a' : Option Addr} {m c' : Nat} (hr : Rd w0 (.slice a' m c') m (b.map bc)) (hm : m = b.length) : Rdr w0 (w.setCell ⟨g, 0, none⟩ (.slice a' m c')) g b :=
  ⟨a', m, c', bx_set hq 0 _, hr, hm⟩
theorem own_past {w0 w : World} {g : Nat} {e : TypeId} {size n : Nat} {v : Value} {xs : List Value} (h : w.ownsRow w0.heap.size e size v n xs) (hg : g < w0.heap.size) (u : Value) : (w.setCell ⟨g, 0, none⟩ u).ownsRow w0.heap.size e size v n xs := own_setq h hg 0 u

set_option maxRecDepth 100000 in
set_option maxHeartbeats 4000000 in
theorem some7_any {w0 w : World} {g : Nat} {b : List UInt8} (hr : Rdr w0 w g b) (hb : Below w0.heap.size w0 w) (hl : b.length ≤ 1000000000) :
    Calls Try.prog 39 #[.pointer (some ⟨g, 0, none⟩), .int .i64 7] w (ReadP w0 w g b sevenD fun w' v l => ∃ a c, v = .slice a l.length c ∧ w'.ownsRow w.heap.size 3 1 (.slice a l.length c) l.length (l.map ic)) := by
  obtain ⟨a, n, c, hq, hrd, hn⟩ := hr
  have f0 := cell_of_box hq 0 rfl
  have HQ := Lib.hid hq
  have HR0 := Lib.hid hrd
  have HR := Lib.hid (hrd.later hb)
  have HN := Lib.hid hn
  have hgw : g < w.heap.size := (Array.getElem?_eq_some_iff.1 hq).1
  have hnc : n ≤ c := by obtain ⟨_, _, hv, h1, -, -, -⟩ := id hrd; cases hv; omega
  have hcm : c ≤ maxLen := by obtain ⟨_, _, hv, -, h1, -, -⟩ := id hrd; cases hv; exact h1
  unfold maxLen at hcm
  have HGW := Lib.hid hgw
  cases hg : getNums b with
  | none =>
    have HG := Lib.hid hg
    have HS : Hid (sevenD b = none) := by show _ = _; unfold sevenD onlyD; rw [hg]
    clear hq hrd hn hg hb
    go_enter Try.func39, Try.ntmps39
    go_wp2_with fail
    refine (numsGet_no HR.out HN.out hl HG.out).mono ?_
    rintro e w1 ⟨rfl, hb1⟩
    have HB1 := Lib.hid hb1
    clear hb1
    go_wp2_with fail
    refine (must_false _ _).mono ?_
    rintro e w2 ⟨rfl, rfl⟩
    go_wp2_with fail
    exact ⟨rfl, But.of_below HB1.out, .inl ⟨HS.out, rfl⟩⟩
  | some p =>
    obtain ⟨l, k⟩ := p
    have HG := Lib.hid hg
    have hkl := (getNums_takes _ _ _ hg).2
    by_cases h7 : l.length = 7
    · have e7 : ((l.length : Int) == 7) = true := by simp [h7]
      have HS : Hid (sevenD b = some (l, k)) := by show _ = _; unfold sevenD onlyD; rw [hg]; simp [h7]
      obtain ⟨a2, c2, hsl, hrs⟩ := run_part_lo elB hrd (by simp [hn]) k (by omega)
      rw [Nat.mul_one, ← List.map_drop] at hrs
      have HRS := Lib.hid hrs
      have HLS : Hid (n - k = (b.drop k).length) := by show _ = _; rw [List.length_drop, hn]
      have hkn : k ≤ n := by omega
      clear hq hrd hn hg hb hrs h7
      go_enter Try.func39, Try.ntmps39
      go_wp2_with fail
      refine (numsGet_yes HR.out HN.out hl HG.out).mono ?_
      rintro e w1 ⟨av, cv, rfl, hown1, hb1⟩
      have HB1 := Lib.hid hb1
      have HO1 := Lib.hid hown1
      have HQ1 := Lib.hid (bx_later hb1 HQ.out)
      have k0 := cell_of_box HQ1.out 0 rfl
      have kf := frozen_of_box HQ1.out 0
      clear hb1 hown1 f0
      go_wp2_with fail
      refine (must_true _ _).mono ?_
      rintro e w2 ⟨rfl, rfl⟩
      go_wp2_with fail
      go_ret
      exact ⟨(But.of_below (S := fun k => k = g) HB1.out).set (a := ⟨g, 0, none⟩) rfl _, .inr ⟨_, l, k, HS.out, rfl, hkl, rdr_set HQ1.out HRS.out HLS.out, _, _, rfl, own_past HO1.out HGW.out _⟩⟩
    · have e7 : ((l.length : Int) == 7) = false := by simp; omega
      have HS : Hid (sevenD b = none) := by show _ = _; unfold sevenD onlyD; rw [hg]; simp [h7]
      clear hq hrd hn hg hb h7
      go_enter Try.func39, Try.ntmps39
      go_wp2_with fail
      refine (numsGet_yes HR.out HN.out hl HG.out).mono ?_
      rintro e w1 ⟨av, cv, rfl, hown1, hb1⟩
      have HB1 := Lib.hid hb1
      clear hb1 hown1
      go_wp2_with fail
      refine (must_false _ _).mono ?_
      rintro e w2 ⟨rfl, rfl⟩
      go_wp2_with fail
      exact ⟨rfl, But.of_below HB1.out, .inl ⟨HS.out, rfl⟩⟩

set_option maxRecDepth 100000 in
set_option maxHeartbeats 4000000 in
theorem someAny_any {w0 w : World} {g : Nat} {b : List UInt8} (hr : Rdr w0 w g b) (hb : Below w0.heap.size w0 w) (hl : b.length ≤ 1000000000) :
    Calls Try.prog 39 #[.pointer (some ⟨g, 0, none⟩), .int .i64 (-1)] w (ReadP w0 w g b getNums fun w' v l => ∃ a c, v = .slice a l.length c ∧ w'.ownsRow w.heap.size 3 1 (.slice a l.length c) l.length (l.map ic)) := by
  obtain ⟨a, n, c, hq, hrd, hn⟩ := hr
  have f0 := cell_of_box hq 0 rfl
  have HQ := Lib.hid hq
  have HR0 := Lib.hid hrd
  have HR := Lib.hid (hrd.later hb)
  have HN := Lib.hid hn
  have hgw : g < w.heap.size := (Array.getElem?_eq_some_iff.1 hq).1
  have hnc : n ≤ c := by obtain ⟨_, _, hv, h1, -, -, -⟩ := id hrd; cases hv; omega
  have hcm : c ≤ maxLen := by obtain ⟨_, _, hv, -, h1, -, -⟩ := id hrd; cases hv; exact h1
  unfold maxLen at hcm
  have HGW := Lib.hid hgw
  cases hg : getNums b with
  | none =>
    have HG := Lib.hid hg
    have HS : Hid (getNums b = none) := by show _ = _; exact hg
    clear hq hrd hn hg hb
    go_enter Try.func39, Try.ntmps39
    go_wp2_with fail
    refine (numsGet_no HR.out HN.out hl HG.out).mono ?_
    rintro e w1 ⟨rfl, hb1⟩
    have HB1 := Lib.hid hb1
    clear hb1
    go_wp2_with fail
    refine (must_false _ _).mono ?_
    rintro e w2 ⟨rfl, rfl⟩
    go_wp2_with fail
    exact ⟨rfl, But.of_below HB1.out, .inl ⟨HS.out, rfl⟩⟩
  | some p =>
    obtain ⟨l, k⟩ := p
    have HG := Lib.hid hg
    have hkl := (getNums_takes _ _ _ hg).2
    have HS : Hid (getNums b = some (l, k)) := by show _ = _; exact hg
    obtain ⟨a2, c2, hsl, hrs⟩ := run_part_lo elB hrd (by simp [hn]) k (by omega)
    rw [Nat.mul_one, ← List.map_drop] at hrs
    have HRS := Lib.hid hrs
    have HLS : Hid (n - k = (b.drop k).length) := by show _ = _; rw [List.length_drop, hn]
    have hkn : k ≤ n := by omega
    clear hq hrd hn hg hb hrs 
    go_enter Try.func39, Try.ntmps39
    go_wp2_with fail
    refine (numsGet_yes HR.out HN.out hl HG.out).mono ?_
    rintro e w1 ⟨av, cv, rfl, hown1, hb1⟩
    have HB1 := Lib.hid hb1
    have HO1 := Lib.hid hown1
    have HQ1 := Lib.hid (bx_later hb1 HQ.out)
    have k0 := cell_of_box HQ1.out 0 rfl
    have kf := frozen_of_box HQ1.out 0
    clear hb1 hown1 f0
    go_wp2_with fail
    refine (must_true _ _).mono ?_
    rintro e w2 ⟨rfl, rfl⟩
    go_wp2_with fail
    go_ret
    exact ⟨(But.of_below (S := fun k => k = g) HB1.out).set (a := ⟨g, 0, none⟩) rfl _, .inr ⟨_, l, k, HS.out, rfl, hkl, rdr_set HQ1.out HRS.out HLS.out, _, _, rfl, own_past HO1.out HGW.out _⟩⟩
end Go.Proofs.Ytliokkoalkhpaaa
