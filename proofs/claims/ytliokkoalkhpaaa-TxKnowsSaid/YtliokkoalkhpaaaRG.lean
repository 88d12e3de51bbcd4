/-
  Layer 3 (row): the row of bytes: walks.
-/
import Derived.Test.YtliokkoalkhpaaaRB
namespace Go.Proofs.Ytliokkoalkhpaaa
open Go.RowKit Go.Sort Go.BigFrame

/-- What a function that gets a row leaves. -/
def RowG (w : World) (b : List UInt8) (e : Ending) (w' : World) : Prop :=
  Below w.heap.size w w' ∧ ((getR b = none ∧ e = .returned (.tuple #[.slice none 0 0, .int .i64 0, .int .i64 3])) ∨
    ∃ v l k, getR b = some (l, k) ∧ e = .returned (.tuple #[v, .int .i64 (k : Nat), .int .i64 0]) ∧ w'.ownsRow w.heap.size 87 3 v l.length (rowCs l))

/-- What holds at the head of the loop. -/
def RelR (w : World) (b : List UInt8) (m : Nat) (at_ out i : Value) (wr : World) : Prop :=
  ∃ (j k : Nat) (outs : List Val), j ≤ m ∧ i = .int .i64 j ∧ at_ = .int .i64 k ∧ k ≤ b.length ∧ j ≤ k ∧ outs.length = j ∧ RoundsD getVal b (m - j) k outs ∧ wr.ownsRow w.heap.size 87 3 out outs.length (rowCs outs) ∧ Below w.heap.size w wr

theorem getVal_no {v : Value} {b : List UInt8} {n : Nat} {w : World} (h : Rd w v n (b.map bc)) (hn : n = b.length) (hg : getVal b = none) :
    Calls Try.prog 68 #[v] w fun e w' => e = .returned (.tuple #[.agg #[.int .i64 0, .int .i64 0, .string ⟨#[]⟩], .int .i64 0, .int .i64 3]) ∧ Below w.heap.size w w' := by
  subst hn
  have := getVal_any v b w h
  rw [getValV_no hg] at this
  exact this
theorem getVal_yes {v : Value} {b : List UInt8} {n : Nat} {w : World} (h : Rd w v n (b.map bc)) (hn : n = b.length) {x : Val} {k : Nat} (hg : getVal b = some (x, k)) :
    Calls Try.prog 68 #[v] w fun e w' => e = .returned (.tuple #[.agg #[.int .i64 x.k, .int .i64 x.n, .string x.s], .int .i64 k, .int .i64 0]) ∧ Below w.heap.size w w' := by
  subst hn
  have := getVal_any v b w h
  rw [getValV_yes hg] at this
  exact this

theorem refGetVal_no {v : Value} {b : List UInt8} {n : Nat} {w : World} (h : Rd w v n (b.map bc)) (hn : n = b.length) (hg : getVal b = none) :
    Calls Try.prog 72 #[v] w fun e w' => e = .returned (.tuple #[.agg #[.int .i64 0, .int .i64 0, .string ⟨#[]⟩], .int .i64 0, .int .i64 3]) ∧ Below w.heap.size w w' := by
  subst hn
  have := refGetVal_any v b w h
  rw [getValV_no hg] at this
  exact this
theorem refGetVal_yes {v : Value} {b : List UInt8} {n : Nat} {w : World} (h : Rd w v n (b.map bc)) (hn : n = b.length) {x : Val} {k : Nat} (hg : getVal b = some (x, k)) :
    Calls Try.prog 72 #[v] w fun e w' => e = .returned (.tuple #[.agg #[.int .i64 x.k, .int .i64 x.n, .string x.s], .int .i64 k, .int .i64 0]) ∧ Below w.heap.size w w' := by
  subst hn
  have := refGetVal_any v b w h
  rw [getValV_yes hg] at this
  exact this

set_option maxRecDepth 100000 in
set_option maxHeartbeats 800000 in
theorem getR_any (v : Value) (b : List UInt8) (w : World) (h : Rd w v b.length (b.map bc)) (hbl : b.length ≤ 1000000000) :
    Calls Try.prog 67 #[v] w (RowG w b) := by
  obtain ⟨ao, c, rfl, hna, hma, _, _⟩ := id h
  have HA := Lib.hid h
  clear hma
  cases hg : get b with
  | none =>
    have HG := Lib.hid hg
    have HN := Lib.hid (show getR b = none from getL_no hg)
    clear hg
    go_enter Try.func67, Try.ntmps67
    go_wp2_with fail
    refine (get_no HA.out rfl HG.out).mono ?_
    rintro e w1 ⟨rfl, rfl⟩
    go_wp2_with fail
    go_ret3
    exact ⟨Below.refl _ _, .inl ⟨HN.out, ret3 rfl rfl rfl rfl⟩⟩
  | some p =>
    obtain ⟨many, k0⟩ := p
    have hl0 := get_le hg
    have hr0 := get_some hg
    have hr1 := hr0.1
    have hr2 := hr0.2.1
    have HG := Lib.hid hg
    clear hr0
    by_cases hbad : many < 0 ∨ (b.length : Int) < many
    · have HN := Lib.hid (show getR b = none from show getR b = none by rcases hbad with h | h; exact getL_neg hg h; exact getL_many getVal_takes hg h)
      clear hg
      go_enter Try.func67, Try.ntmps67
      go_wp2_with fail
      refine (get_yes HA.out rfl HG.out).mono ?_
      rintro e w1 ⟨rfl, rfl⟩
      go_wp2_with fail
      all_goals go_ret3
      all_goals exact ⟨Below.refl _ _, .inl ⟨HN.out, ret3 rfl rfl rfl rfl⟩⟩
    · obtain ⟨m, rfl⟩ := Int.eq_ofNat_of_zero_le (show 0 ≤ many by omega)
      have hmb : m ≤ b.length := by omega
      have HR := Lib.hid (show RoundsD getVal b m k0 [] from roundsD_start hg)
      clear hg hbad
      go_enter Try.func67, Try.ntmps67
      go_wp2_with fail
      refine (get_yes HA.out rfl HG.out).mono ?_
      rintro e w1 ⟨rfl, rfl⟩
      go_wp2_with fail
      go_loopw [6, 8, 31] (fun a out i wr => RelR w b m a out i wr) (fun _ _ i _ => m - (intOf i).toNat)
      case atStart => exact ⟨0, k0, [], Nat.zero_le _, rfl, rfl, by omega, Nat.zero_le _, rfl, by simpa using HR.out, World.ownsRow_nil _ _ _ _, Below.refl _ _⟩
      case round =>
        obtain ⟨j, k, outs, hj, rfl, rfl, hk, hjk, hol, hR, hown, hb⟩ := hrel
        have HR1 := Lib.hid hR
        have HO := Lib.hid hol
        have hol1 : outs.length ≤ j := by omega
        clear hR hol
        by_cases hlt : j < m
        · obtain ⟨left, hleft⟩ : ∃ left, m - j = left + 1 := ⟨m - j - 1, by omega⟩
          have HR2 : Hid (RoundsD getVal b (left + 1) k outs) := by rw [← hleft]; exact HR1.out
          have HL : Hid (m - (j + 1) = left) := by unfold Hid; omega
          clear hleft HR1
          obtain ⟨as1, cs1, hsl, hrs⟩ := run_part_lo elB HA.out (by simp) k hk
          rw [Nat.mul_one, ← List.map_drop] at hrs
          have Hrs := Lib.hid (hrs.later hb)
          have e1 : (b.drop k).length = b.length - k := by simp
          have HE := Lib.hid e1
          clear hrs e1
          cases hg2 : getVal (b.drop k) with
          | none =>
            have HN := Lib.hid (roundsD_fail HR2.out hg2)
            have HG2 := Lib.hid hg2
            clear hg2
            go_wp2_with fail
            refine (getVal_no Hrs.out HE.out.symm HG2.out).mono ?_
            rintro e w2 ⟨rfl, hb2⟩
            go_wp2_with fail
            go_ret3
            refine ⟨below_then hb (below_then hb2 ?_), .inl ⟨HN.out, ret3 rfl rfl rfl rfl⟩⟩
            exact below_alloc _ _
          | some q =>
            obtain ⟨x, i⟩ := q
            have HN := Lib.hid (roundsD_next HR2.out hg2)
            have HG2 := Lib.hid hg2
            have hg3 := getVal_takes _ _ _ hg2
            simp only [List.length_drop] at hg3
            clear hg2
            go_wp2_with fail
            refine (getVal_yes Hrs.out HE.out.symm HG2.out).mono ?_
            rintro e w2 ⟨rfl, hb2⟩
            have hown1 := (own_later hown hb2).alloc (.cells #[.int .i64 x.k, .int .i64 x.n, .string x.s] 87)
            have hb3 := below_then (below_then hb hb2) (below_alloc _ (.cells #[.int .i64 x.k, .int .i64 x.n, .string x.s] 87))
            go_wp2_with (at_builtin; refine wpList_push' elR rfl _ _ rfl rfl rfl (alloc_size _ _) hown1 rfl rfl (by unfold maxLen; omega) (by omega) hb3.size ?_; intro v4 w4 hown4 hgrow4 hblk4)
            refine ⟨?_, ?measure⟩
            (repeat apply Exists.intro)
            refine ⟨?rel, ?eqs⟩
            case eqs => repeat' (first | rfl | refine ⟨?_, ?_⟩)
            case rel =>
              exact ⟨j + 1, k + i, outs ++ [x], by omega, by go_num, by go_num, by omega, by omega, by simp [HO.out], by rw [HL.out]; exact HN.out, by rw [rowCs_snoc]; simpa [Val.cs] using hown4, below_own hb3 hown1 (Nat.le_refl _) hgrow4⟩
            case measure => simp [intOf]; omega
        · have HN : Hid (getR b = some (outs, k)) := by
            have h1 := HR1.out
            rw [show m - j = 0 by omega] at h1
            exact roundsD_end h1
          go_wp2_with fail
          go_ret3
          exact ⟨hb, .inr ⟨_, outs, k, HN.out, ret3 rfl rfl rfl rfl, hown⟩⟩

set_option maxRecDepth 100000 in
set_option maxHeartbeats 800000 in
theorem refGetR_any (v : Value) (b : List UInt8) (w : World) (h : Rd w v b.length (b.map bc)) (hbl : b.length ≤ 1000000000) :
    Calls Try.prog 71 #[v] w (RowG w b) := by
  obtain ⟨ao, c, rfl, hna, hma, _, _⟩ := id h
  have HA := Lib.hid h
  clear hma
  cases hg : get b with
  | none =>
    have HG := Lib.hid hg
    have HN := Lib.hid (show getR b = none from getL_no hg)
    clear hg
    go_enter Try.func71, Try.ntmps71
    go_wp2_with fail
    refine (refGet_no HA.out rfl HG.out).mono ?_
    rintro e w1 ⟨rfl, hb1⟩
    go_wp2_with fail
    go_ret3
    exact ⟨hb1, .inl ⟨HN.out, ret3 rfl rfl rfl rfl⟩⟩
  | some p =>
    obtain ⟨many, k0⟩ := p
    have hl0 := get_le hg
    have hr0 := get_some hg
    have hr1 := hr0.1
    have hr2 := hr0.2.1
    have HG := Lib.hid hg
    clear hr0
    by_cases hbad : many < 0
    · have HN := Lib.hid (show getR b = none from getL_neg hg hbad)
      clear hg
      go_enter Try.func71, Try.ntmps71
      go_wp2_with fail
      refine (refGet_yes HA.out rfl HG.out).mono ?_
      rintro e w1 ⟨rfl, hb1⟩
      go_wp2_with fail
      all_goals go_ret3
      all_goals exact ⟨hb1, .inl ⟨HN.out, ret3 rfl rfl rfl rfl⟩⟩
    · obtain ⟨m, rfl⟩ := Int.eq_ofNat_of_zero_le (show 0 ≤ many by omega)
      have HR := Lib.hid (show RoundsD getVal b m k0 [] from roundsD_start hg)
      clear hg hbad
      go_enter Try.func71, Try.ntmps71
      go_wp2_with fail
      refine (refGet_yes HA.out rfl HG.out).mono ?_
      rintro e w1 ⟨rfl, hb1⟩
      go_wp2_with fail
      go_loopw [6, 8, 9] (fun a out i wr => RelR w b m a out i wr) (fun _ _ i _ => m - (intOf i).toNat)
      case atStart => exact ⟨0, k0, [], Nat.zero_le _, rfl, rfl, by omega, Nat.zero_le _, rfl, by simpa using HR.out, World.ownsRow_nil _ _ _ _, hb1⟩
      case round =>
        obtain ⟨j, k, outs, hj, rfl, rfl, hk, hjk, hol, hR, hown, hb⟩ := hrel
        have HR1 := Lib.hid hR
        have HO := Lib.hid hol
        have hol1 : outs.length ≤ j := by omega
        clear hR hol
        by_cases hlt : j < m
        · obtain ⟨left, hleft⟩ : ∃ left, m - j = left + 1 := ⟨m - j - 1, by omega⟩
          have HR2 : Hid (RoundsD getVal b (left + 1) k outs) := by rw [← hleft]; exact HR1.out
          have HL : Hid (m - (j + 1) = left) := by unfold Hid; omega
          clear hleft HR1
          obtain ⟨as1, cs1, hsl, hrs⟩ := run_part_lo elB HA.out (by simp) k hk
          rw [Nat.mul_one, ← List.map_drop] at hrs
          have Hrs := Lib.hid (hrs.later hb)
          have e1 : (b.drop k).length = b.length - k := by simp
          have HE := Lib.hid e1
          clear hrs e1
          cases hg2 : getVal (b.drop k) with
          | none =>
            have HN := Lib.hid (roundsD_fail HR2.out hg2)
            have HG2 := Lib.hid hg2
            clear hg2
            go_wp2_with fail
            refine (refGetVal_no Hrs.out HE.out.symm HG2.out).mono ?_
            rintro e w2 ⟨rfl, hb2⟩
            go_wp2_with fail
            go_ret3
            refine ⟨below_then hb (below_then hb2 ?_), .inl ⟨HN.out, ret3 rfl rfl rfl rfl⟩⟩
            exact below_alloc _ _
          | some q =>
            obtain ⟨x, i⟩ := q
            have HN := Lib.hid (roundsD_next HR2.out hg2)
            have HG2 := Lib.hid hg2
            have hg3 := getVal_takes _ _ _ hg2
            simp only [List.length_drop] at hg3
            clear hg2
            go_wp2_with fail
            refine (refGetVal_yes Hrs.out HE.out.symm HG2.out).mono ?_
            rintro e w2 ⟨rfl, hb2⟩
            have hown1 := (own_later hown hb2).alloc (.cells #[.int .i64 x.k, .int .i64 x.n, .string x.s] 87)
            have hb3 := below_then (below_then hb hb2) (below_alloc _ (.cells #[.int .i64 x.k, .int .i64 x.n, .string x.s] 87))
            go_wp2_with (at_builtin; refine wpList_push' elR rfl _ _ rfl rfl rfl (alloc_size _ _) hown1 rfl rfl (by unfold maxLen; omega) (by omega) hb3.size ?_; intro v4 w4 hown4 hgrow4 hblk4)
            go_roundw
            case rel =>
              exact ⟨j + 1, k + i, outs ++ [x], by omega, by go_num, by go_num, by omega, by omega, by simp [HO.out], by rw [HL.out]; exact HN.out, by rw [rowCs_snoc]; simpa [Val.cs] using hown4, below_own hb3 hown1 (Nat.le_refl _) hgrow4⟩
            case measure => simp [intOf]; omega
        · have HN : Hid (getR b = some (outs, k)) := by
            have h1 := HR1.out
            rw [show m - j = 0 by omega] at h1
            exact roundsD_end h1
          go_wp2_with fail
          go_ret3
          exact ⟨hb, .inr ⟨_, outs, k, HN.out, ret3 rfl rfl rfl rfl, hown⟩⟩

end Go.Proofs.Ytliokkoalkhpaaa
