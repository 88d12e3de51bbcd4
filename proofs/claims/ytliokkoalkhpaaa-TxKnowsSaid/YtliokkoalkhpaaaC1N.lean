/-
  Layer 1 (code): the walks of what gets rows of numbers: by two functions that share a place, and the reference.
-/
import Derived.Test.YtliokkoalkhpaaaC1U
namespace Go.Proofs.Ytliokkoalkhpaaa
open Go.RowKit

/-- What a function that gets a row of numbers leaves. -/
def NumsR (w : World) (b : List UInt8) (e : Ending) (w' : World) : Prop :=
  Below w.heap.size w w' ∧ ((getNums b = none ∧ e = .returned (.tuple #[.slice none 0 0, .int .i64 0, .int .i64 3])) ∨
    ∃ (v : Value) (l : List Int) (k : Nat), getNums b = some (l, k) ∧ e = .returned (.tuple #[v, .int .i64 k, .int .i64 0]) ∧ w'.ownsRow w.heap.size 3 1 v l.length (l.map (Value.int .i64)))

/-- The place that two functions share: a block with the bytes, a block with how far. -/
structure Share (w : World) (bb ba : Nat) (v : Value) (k : Nat) : Prop where
  bytes : w.heap[bb]? = some (.cells #[v] 38 (0, 0))
  upto : w.heap[ba]? = some (.cells #[.int .i64 k] 3 (0, 0))

set_option maxRecDepth 100000 in
set_option maxHeartbeats 400000 in
theorem next_yes {w : World} {bb ba n c k i : Nat} {ao : Option Addr} {b : List UInt8} {x : Int} (hs : Share w bb ba (.slice ao n c) k) (h : Rd w (.slice ao n c) n (b.map bc)) (hn : n = b.length) (hl : b.length ≤ 1000000000) (hk : k ≤ b.length) (hg : get (b.drop k) = some (x, i)) :
    Calls Try.prog 96 #[.pointer (some ⟨bb, 0, none⟩), .pointer (some ⟨ba, 0, none⟩)] w fun e w' => e = .returned (.tuple #[.int .i64 x, .bool true]) ∧ w.setCell ⟨ba, 0, none⟩ (.int .i64 ((k + i : Nat) : Int)) = w' := by
  subst hn
  have c1 := cell_of_one hs.bytes
  have c2 := cell_of_one hs.upto
  have f2 := free_of_one hs.upto
  obtain ⟨as1, cs1, hsl, hrs⟩ := run_part_lo elB h (by simp) k hk
  rw [Nat.mul_one, ← List.map_drop] at hrs
  have Hrs := Lib.hid hrs
  have hil := get_le hg
  have e1 : (b.drop k).length = b.length - k := by simp
  rw [e1] at hil
  have HG := Lib.hid hg
  have HE := Lib.hid e1
  clear hrs hg e1 h hs
  go_enter Try.func96, Try.ntmps96
  go_wp2_with fail
  refine (get_yes Hrs.out HE.out.symm HG.out).mono ?_
  rintro e w1 ⟨rfl, rfl⟩
  go_wp2_with fail
  go_ret2
  exact ⟨rfl, rfl⟩

set_option maxRecDepth 100000 in
set_option maxHeartbeats 400000 in
theorem next_no {w : World} {bb ba n c k : Nat} {ao : Option Addr} {b : List UInt8} (hs : Share w bb ba (.slice ao n c) k) (h : Rd w (.slice ao n c) n (b.map bc)) (hn : n = b.length) (hl : b.length ≤ 1000000000) (hk : k ≤ b.length) (hg : get (b.drop k) = none) :
    Calls Try.prog 96 #[.pointer (some ⟨bb, 0, none⟩), .pointer (some ⟨ba, 0, none⟩)] w fun e w' => e = .returned (.tuple #[.int .i64 0, .bool false]) ∧ w.setCell ⟨ba, 0, none⟩ (.int .i64 (k : Int)) = w' := by
  subst hn
  have c1 := cell_of_one hs.bytes
  have c2 := cell_of_one hs.upto
  have f2 := free_of_one hs.upto
  obtain ⟨as1, cs1, hsl, hrs⟩ := run_part_lo elB h (by simp) k hk
  rw [Nat.mul_one, ← List.map_drop] at hrs
  have Hrs := Lib.hid hrs
  have e1 : (b.drop k).length = b.length - k := by simp
  have HG := Lib.hid hg
  have HE := Lib.hid e1
  clear hrs hg e1 h hs
  go_enter Try.func96, Try.ntmps96
  go_wp2_with fail
  refine (get_no Hrs.out HE.out.symm HG.out).mono ?_
  rintro e w1 ⟨rfl, rfl⟩
  go_wp2_with fail
  go_ret2
  exact ⟨rfl, rfl⟩

theorem share_set {w : World} {bb ba k : Nat} {v : Value} (h : Share w bb ba v k) (hne : bb ≠ ba) (m : Nat) : Share (w.setCell ⟨ba, 0, none⟩ (.int .i64 (m : Int))) bb ba v m :=
  ⟨by rw [Below.heap_setCell _ _ _ _ hne]; exact h.bytes, one_setCell h.upto⟩
theorem share_grown {w w' : World} {bb ba k : Nat} {v : Value} {row : Option Nat} (h : Share w bb ba v k) (hg : w.grownBy w' row) (h1 : row ≠ some bb) (h2 : row ≠ some ba) : Share w' bb ba v k :=
  ⟨by rw [hg.block bb (lt_of_block h.bytes) (fun e => h1 e.symm)]; exact h.bytes, by rw [hg.block ba (lt_of_block h.upto) (fun e => h2 e.symm)]; exact h.upto⟩
theorem own_mono {w : World} {B B' : Nat} {e : TypeId} {size : Nat} {v : Value} {n : Nat} {xs : List Value} (h : w.ownsRow B e size v n xs) (hB : B' ≤ B) : w.ownsRow B' e size v n xs := by
  refine ⟨h.1, ?_⟩
  rcases h.2 with hn | ⟨g, cap, cur, rfl, hbg, r⟩
  · exact .inl hn
  · exact .inr ⟨g, cap, cur, rfl, by omega, r⟩

theorem run_makeFunc {P : Program} (fn : Fn) (first cap : Array Value) (w : World) : (Instr.makeFunc fn first cap).run P w = .ok (.func fn first cap) w := rfl

/-- What holds at the head of the loop. -/
def RelN (w : World) (b : List UInt8) (v : Value) (m : Nat) (out i : Value) (wr : World) : Prop :=
  ∃ (j k : Nat) (outs : List Int), j ≤ m ∧ i = .int .i64 j ∧ Share wr w.heap.size (w.heap.size + 1) v k ∧ k ≤ b.length ∧ j ≤ k ∧ outs.length = j ∧ Rounds b (m - j) k outs ∧ wr.ownsRow (w.heap.size + 2) 3 1 out outs.length (outs.map (Value.int .i64)) ∧ Below w.heap.size w wr ∧ w.heap.size + 2 ≤ wr.heap.size

set_option maxRecDepth 100000 in
set_option maxHeartbeats 400000 in
theorem getNums_any (v : Value) (b : List UInt8) (w : World) (h : Rd w v b.length (b.map bc)) (hbl : b.length ≤ 1000000000) :
    Calls Try.prog 66 #[v] w (NumsR w b) := by
  obtain ⟨ao, c, rfl, hna, hma, _, _⟩ := id h
  have HA := Lib.hid h
  have hmf : ∀ (fn : Fn) (first cap : Array Value) (w : World), (Instr.makeFunc fn first cap).run Try.prog w = .ok (.func fn first cap) w := run_makeFunc
  clear h hma
  have hS : Share ((w.alloc (.cells #[.slice ao b.length c] 38)).alloc (.cells #[.int .i64 0] 3)) w.heap.size (w.heap.size + 1) (.slice ao b.length c) 0 :=
    ⟨heap_alloc2_old _ _ _, heap_alloc2_new _ _ _⟩
  have hB2 : Below w.heap.size w ((w.alloc (.cells #[.slice ao b.length c] 38)).alloc (.cells #[.int .i64 0] 3)) := ((Below.refl _ _).alloc (Nat.le_refl _) _).alloc (by simp) _
  have HS := Lib.hid hS
  have HB2 := Lib.hid hB2
  clear hS hB2
  cases hg : get b with
  | none =>
    have HG := Lib.hid hg
    have HN := Lib.hid (getNums_no hg)
    clear hg
    go_enter Try.func66, Try.ntmps66
    go_wp2_with (go_at_call 84; go_in)
    refine (next_no HS.out (HA.out.later HB2.out) rfl hbl (Nat.zero_le _) HG.out).mono ?_
    rintro e w1 ⟨rfl, hw1⟩
    have hb1 : Below w.heap.size w w1 := by rw [← hw1]; exact HB2.out.setCell (by simp) _
    clear hw1
    go_wp2_with fail
    go_ret3
    exact ⟨hb1, .inl ⟨HN.out, ret3 rfl rfl rfl rfl⟩⟩
  | some p =>
    obtain ⟨many, k0⟩ := p
    have hl0 := get_le hg
    have hr0 := get_some hg
    have hr1 := hr0.1
    have hr2 := hr0.2.1
    have HG := Lib.hid hg
    clear hr0
    by_cases hbad : many < 0 ∨ (b.length : Int) < many
    · have HN := Lib.hid (show getNums b = none by rcases hbad with h | h; exact getNums_neg hg h; exact getNums_many hg h)
      clear hg
      go_enter Try.func66, Try.ntmps66
      go_wp2_with (go_at_call 84; go_in)
      refine (next_yes HS.out (HA.out.later HB2.out) rfl hbl (Nat.zero_le _) HG.out).mono ?_
      rintro e w1 ⟨rfl, hw1⟩
      have hb1 : Below w.heap.size w w1 := by rw [← hw1]; exact HB2.out.setCell (by simp) _
      clear hw1
      go_wp2_with fail
      all_goals go_ret3
      all_goals exact ⟨hb1, .inl ⟨HN.out, ret3 rfl rfl rfl rfl⟩⟩
    · obtain ⟨m, rfl⟩ := Int.eq_ofNat_of_zero_le (show 0 ≤ many by omega)
      have hmb : m ≤ b.length := by omega
      have HR := Lib.hid (rounds_start hg)
      clear hg hbad
      go_enter Try.func66, Try.ntmps66
      go_wp2_with (go_at_call 84; go_in)
      refine (next_yes HS.out (HA.out.later HB2.out) rfl hbl (Nat.zero_le _) HG.out).mono ?_
      rintro e w1 ⟨rfl, hw1⟩
      have hb1 : Below w.heap.size w w1 := by rw [← hw1]; exact HB2.out.setCell (by simp) _
      have hS1 := Lib.hid (show Share w1 w.heap.size (w.heap.size + 1) (.slice ao b.length c) (0 + k0) by rw [← hw1]; exact share_set HS.out (by omega) _)
      have hz1 : w.heap.size + 2 ≤ w1.heap.size := by rw [← hw1]; simp
      clear hw1
      go_wp2_with fail
      go_loopw [9, 35] (fun out i wr => RelN w b (.slice ao b.length c) m out i wr) (fun _ i _ => m - (intOf i).toNat)
      case atStart => exact ⟨0, 0 + k0, [], Nat.zero_le _, rfl, hS1.out, by omega, Nat.zero_le _, rfl, by simpa using HR.out, World.ownsRow_nil _ _ _ _, hb1, hz1⟩
      case round =>
        obtain ⟨j, k, outs, hj, rfl, hS, hk, hjk, hol, hR, hown, hb, hsz⟩ := hrel
        have HS1 := Lib.hid hS
        have HR1 := Lib.hid hR
        have HO := Lib.hid hol
        have hol1 : outs.length ≤ j := by omega
        clear hS hR hol
        by_cases hlt : j < m
        · obtain ⟨left, hleft⟩ : ∃ left, m - j = left + 1 := ⟨m - j - 1, by omega⟩
          have HR2 : Hid (Rounds b (left + 1) k outs) := by rw [← hleft]; exact HR1.out
          have HL : Hid (m - (j + 1) = left) := by unfold Hid; omega
          clear hleft HR1
          cases hg2 : get (b.drop k) with
          | none =>
            have HN := Lib.hid (rounds_fail HR2.out hg2)
            have HG2 := Lib.hid hg2
            clear hg2
            go_wp2_with fail
            refine (next_no HS1.out (HA.out.later hb) rfl hbl hk HG2.out).mono ?_
            rintro e w2 ⟨rfl, hw2⟩
            have hb2 : Below w.heap.size w w2 := by rw [← hw2]; exact hb.setCell (by simp) _
            clear hw2
            go_wp2_with fail
            go_ret3
            exact ⟨hb2, .inl ⟨HN.out, ret3 rfl rfl rfl rfl⟩⟩
          | some q =>
            obtain ⟨x, i⟩ := q
            have HN := Lib.hid (rounds_next HR2.out hg2)
            have HG2 := Lib.hid hg2
            have hg3 := get_le hg2
            simp only [List.length_drop] at hg3
            clear hg2
            go_wp2_with fail
            refine (next_yes HS1.out (HA.out.later hb) rfl hbl hk HG2.out).mono ?_
            rintro e w2 ⟨rfl, rfl⟩
            have hown1 := ownsRow_setCell_below hown (a := ⟨w.heap.size + 1, 0, none⟩) (by simp) (.int .i64 ((k + i : Nat) : Int))
            have hS1 := Lib.hid (share_set HS1.out (by omega) (k + i))
            have hb1 := hb.setCell (p := ⟨w.heap.size + 1, 0, none⟩) (by simp) (.int .i64 ((k + i : Nat) : Int))
            have hsz1 : w.heap.size + 2 ≤ (wr.setCell ⟨w.heap.size + 1, 0, none⟩ (.int .i64 ((k + i : Nat) : Int))).heap.size := by simpa using hsz
            generalize wr.setCell ⟨w.heap.size + 1, 0, none⟩ (.int .i64 ((k + i : Nat) : Int)) = w3 at *
            go_wp2_with (at_builtin; refine wpList_push elI rfl _ _ rfl rfl rfl hown1 rfl rfl (by unfold maxLen; omega) (by omega) hsz1 ?_; intro v4 w4 hown4 hgrow4 hblk4)
            refine ⟨?_, ?measure⟩
            (repeat apply Exists.intro)
            refine ⟨?rel, rfl, rfl, rfl, rfl, rfl, rfl, rfl⟩
            case rel =>
              have hrow := hown1.lt
              exact ⟨j + 1, k + i, outs ++ [x], by omega, by go_num, share_grown hS1.out hgrow4 (fun e => by have := hrow _ e; omega) (fun e => by have := hrow _ e; omega), by omega, by omega, by simp [HO.out], by rw [HL.out]; exact HN.out, by simpa using hown4, hb1.grown hgrow4 (by omega) (fun k hk => by have := hrow _ hk; omega), by have := hgrow4.size; omega⟩
            case measure => simp [intOf]; omega
        · have HN : Hid (getNums b = some (outs, k)) := by
            have h1 := HR1.out
            rw [show m - j = 0 by omega] at h1
            exact rounds_end h1
          have c2 := cell_of_one HS1.out.upto
          go_wp2_with (go_at_call 97; go_in)
          go_ret3
          exact ⟨hb, .inr ⟨_, outs, k, HN.out, ret3 rfl rfl rfl rfl, own_mono hown (by omega)⟩⟩
end Go.Proofs.Ytliokkoalkhpaaa
