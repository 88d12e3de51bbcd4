/-
  Layer 1 (code), walks: what the program's and the reference's functions on numbers' bytes return.
-/
import Derived.Test.YtliokkoalkhpaaaC1P
namespace Go.Proofs.Ytliokkoalkhpaaa
open Go.RowKit

theorem elB : El Try.prog 38 5 1 1 (.int .u8 0) := El.mk' (by kernel_rfl) (by kernel_rfl) rfl (by decide)
theorem elI : El Try.prog 22 3 1 8 (.int .i64 0) := El.mk' (by kernel_rfl) (by kernel_rfl) rfl (by decide)

/-- What a function that makes bytes of its own leaves. -/
def OwnB (w : World) (l : List UInt8) (e : Ending) (w' : World) : Prop :=
  ∃ v, e = .returned v ∧ w'.ownsRow w.heap.size 5 1 v l.length (l.map bc) ∧ Below w.heap.size w w'

set_option maxHeartbeats 400000 in
theorem turned_any (n : Int) (w : World) (h0 : -9223372036854775808 ≤ n) (h1 : n ≤ 9223372036854775807) :
    Calls Try.prog 65 #[.int .i64 n] w fun e w' => e = .returned (.int .u64 (zig n : Int)) ∧ w = w' := by
  go_enter Try.func65, Try.ntmps65
  go_wp2
  · go_ret
    exact ⟨ret_int (by unfold zig; split <;> omega), rfl⟩
  · go_ret
    exact ⟨ret_int (by unfold zig; split <;> omega), rfl⟩

theorem bc_ofNat {x : Nat} (h : x < 256) : bc (UInt8.ofNat x) = .int .u8 (x : Int) := by
  show Value.int .u8 (((UInt8.ofNat x).toNat : Nat) : Int) = _
  rw [toNat_ofNat h]

theorem own_snoc {w : World} {B E : Nat} {v : Value} {n : Nat} {l : List UInt8} {x : Value} {b : UInt8} (h : w.ownsRow B E 1 v (n + 1) (l.map bc ++ [x])) (hn : n = l.length) (hx : x = bc b) : w.ownsRow B E 1 v (l ++ [b]).length ((l ++ [b]).map bc) := by
  subst hn hx
  simpa using h

set_option maxRecDepth 100000 in
set_option maxHeartbeats 400000 in
theorem refPut_any (n : Int) (w : World) (h0 : -9223372036854775808 ≤ n) (h1 : n ≤ 9223372036854775807) :
    Calls Try.prog 37 #[.int .i64 n] w (OwnB w (put n)) := by
  have hzl := zig_lt n h0 h1
  go_enter Try.func37, Try.ntmps37
  go_wp2_with (go_at_call 65; refine (turned_any _ _ (by omega) (by omega)).mono ?_; rintro e w1 ⟨rfl, rfl⟩)
  go_loopw [3, 4] (fun u v wr => ∃ (k m : Nat) (xs : List UInt8), u = .int .u64 m ∧ m < 18446744073709551616 ∧ xs ++ putF k m = put n ∧ m < 2 * 128 ^ k ∧ xs.length + k = 9 ∧ wr.ownsRow w.heap.size 5 1 v xs.length (xs.map bc) ∧ Below w.heap.size w wr)
    (fun u _ _ => (intOf u).toNat)
  case atStart => exact ⟨9, zig n, [], rfl, hzl, rfl, by omega, rfl, World.ownsRow_nil _ _ _ _, Below.refl _ _⟩
  case round =>
    obtain ⟨k, m, xs, rfl, hm, hput, hmk, hk, hown, hb⟩ := hrel
    by_cases hlt : m < 128
    · have hfin : put n = xs ++ [UInt8.ofNat m] := by rw [← hput]; cases k <;> simp [putF, hlt]
      have Hf := Lib.hid hfin
      clear hfin hput
      go_wp2_with (at_builtin; refine wpList_push elB rfl _ _ rfl rfl rfl hown rfl rfl (by unfold maxLen; omega) (by omega) hb.size ?_; intro v1 w1 hown1 hgrow1 hblk1)
      go_ret
      rw [Hf.out]
      exact ⟨_, rfl, own_snoc hown1 rfl (bc_ofNat (by omega)).symm, hb.grown hgrow1 hb.size (fun k hk => (hown.lt k hk).1)⟩
    · obtain ⟨j, rfl⟩ : ∃ j, k = j + 1 := ⟨k - 1, by cases k <;> omega⟩
      have hstep : (xs ++ [UInt8.ofNat (m % 128 + 128)]) ++ putF j (m / 128) = put n := by rw [← hput]; simp [putF, hlt]
      have Hf := Lib.hid hstep
      have hj : m / 128 < 2 * 128 ^ j := by rw [Nat.pow_succ] at hmk; omega
      clear hstep hput hmk
      go_wp2_with (at_builtin; refine wpList_push elB rfl _ _ rfl rfl rfl hown rfl rfl (by unfold maxLen; omega) (by omega) hb.size ?_; intro v1 w1 hown1 hgrow1 hblk1)
      go_roundw
      case rel => exact ⟨j, m / 128, _, by go_num, by omega, Hf.out, hj, by simp; omega, own_snoc hown1 rfl (by rw [bc_ofNat (by omega)]; go_num), hb.grown hgrow1 hb.size (fun k hk => (hown.lt k hk).1)⟩
      case measure => simp [intOf]; omega

/-- The place of a byte. -/
theorem rd_byte {w : World} {ao : Option Addr} {n c : Nat} {l : List UInt8} (h : Rd w (.slice ao n c) n (l.map bc)) (hl : n = l.length) (k : Nat) (hk : k < l.length) :
    ∃ A : Addr, (∀ W, (Instr.indexAt 38 (.slice ao n c) (.int .i64 (k : Int))).run Try.prog W = .ok (.pointer (some A)) W) ∧ w.cell? A = some (.int .u8 (l[k].toNat : Int)) ∧ A.block < w.heap.size := by
  subst hl
  obtain ⟨A, hA, _, hlt, hc⟩ := h.elem 1 k hk (by simp) (by decide)
  obtain ⟨u, hu, hcu⟩ := hc 0 (by decide)
  refine ⟨A, fun W => run_indexAt_at elB hA hk W, ?_, hlt⟩
  have : u = bc l[k] := by simpa [List.getElem?_eq_getElem hk] using hu.symm
  rw [this] at hcu
  simpa [Addr.add] using hcu

theorem Q.below (w : World) (m : Nat) : Below w.heap.size w (w.drewN m) := below_drewN (Below.refl _ _) m

theorem take_succ_eq {α : Type} [BEq α] [LawfulBEq α] {a b : List α} {k : Nat} (ha : k < a.length) (hb : k < b.length) (h : a.take k = b.take k) (hk : a[k] = b[k]) : a.take (k + 1) = b.take (k + 1) := by
  rw [List.take_succ_eq_append_getElem ha, List.take_succ_eq_append_getElem hb, h, hk]

set_option maxRecDepth 100000 in
set_option maxHeartbeats 400000 in
theorem same_any (va vb : Value) (la lb : List UInt8) (w : World) (ha : Rd w va la.length (la.map bc)) (hb : Rd w vb lb.length (lb.map bc)) :
    Calls Try.prog 18 #[va, vb] w fun e w' => e = .returned (.bool (la == lb)) ∧ Below w.heap.size w w' := by
  obtain ⟨aa, ca, rfl, hna, hma, _, _⟩ := id ha
  obtain ⟨ab, cb, rfl, hnb, hmb, _, _⟩ := id hb
  unfold maxLen at hma hmb
  have HA := Lib.hid ha
  have HB := Lib.hid hb
  clear ha hb
  by_cases hl : la.length = lb.length
  · have hl' : ((la.length : Int) != (lb.length : Int)) = false := by simp [hl]
    have HL := Lib.hid hl
    have hle : la.length ≤ lb.length := by omega
    clear hl
    go_enter Try.func18, Try.ntmps18
    go_wp2
    go_loopw [5] (fun i wr => ∃ k : Nat, k ≤ la.length ∧ i = .int .i64 k ∧ Hid (la.take k = lb.take k) ∧ ∃ m, wr = w.drewN m) (fun i _ => la.length - (intOf i).toNat)
    case atStart => exact ⟨0, Nat.zero_le _, rfl, rfl, 0, rfl⟩
    case round =>
      obtain ⟨k, hk, rfl, htk, m, rfl⟩ := hrel
      by_cases hlt : k < la.length
      · obtain ⟨A1, hi1, hc1, _⟩ := rd_byte HA.out rfl k hlt
        obtain ⟨A2, hi2, hc2, _⟩ := rd_byte HB.out rfl k (by omega)
        go_wp2_with fail
        go_quiet (fail)
        go_wp2_with fail
        · have hd : ((la[k].toNat : Int) != (lb[k].toNat : Int)) = true := by assumption
          have hne : (la == lb) = false := by
            rw [beq_eq_false_iff_ne]; intro h; subst h; simp at hd
          go_ret
          exact ⟨ret_bool hne.symm, below_drewN (Q.below _ _) _⟩
        · have hd : ((la[k].toNat : Int) != (lb[k].toNat : Int)) = false := by assumption
          have he : la[k] = lb[k] := UInt8.toNat_inj.1 (by have := hd; simp at this; omega)
          go_roundw
          case rel => exact ⟨k + 1, by omega, by go_num, take_succ_eq hlt (by omega) htk.out he, _, rfl⟩
          case measure => simp [intOf]; omega
      · have hkl : k = la.length := by omega
        have he : la = lb := by
          have := htk.out
          rwa [hkl, List.take_length, HL.out, List.take_length] at this
        have hne : (la == lb) = true := by simp [he]
        clear he
        have HN := Lib.hid hne
        clear hne hkl
        go_wp2_with fail
        go_ret
        exact ⟨ret_bool HN.out.symm, Q.below _ _⟩
  · have hl' : ((la.length : Int) != (lb.length : Int)) = true := by simp; omega
    have hne : (la == lb) = false := by rw [beq_eq_false_iff_ne]; intro h; exact hl (by rw [h])
    have HN := Lib.hid hne
    clear hne
    go_enter Try.func18, Try.ntmps18
    go_wp2
    go_ret
    exact ⟨ret_bool HN.out.symm, Below.refl _ _⟩

set_option maxRecDepth 100000 in
set_option maxHeartbeats 400000 in
theorem put_any (n : Int) (w : World) (h0 : -9223372036854775808 ≤ n) (h1 : n ≤ 9223372036854775807) :
    Calls Try.prog 34 #[.int .i64 n] w (OwnB w (put n)) := by
  have hzl := zig_lt n h0 h1
  have hz := zig_bits n h0 h1
  go_enter Try.func34, Try.ntmps34
  go_wp2_with fail
  go_step3
  go_wp2_with fail
  go_step3
  go_wp2_with fail
  clear hz
  go_loopw [3, 4] (fun u v wr => ∃ (k m : Nat) (xs : List UInt8), u = .int .u64 m ∧ m < 18446744073709551616 ∧ xs ++ putF k m = put n ∧ m < 2 * 128 ^ k ∧ xs.length + k = 9 ∧ wr.ownsRow w.heap.size 5 1 v xs.length (xs.map bc) ∧ Below w.heap.size w wr)
    (fun u _ _ => (intOf u).toNat)
  case atStart => exact ⟨9, zig n, [], rfl, hzl, rfl, by omega, rfl, World.ownsRow_nil _ _ _ _, Below.refl _ _⟩
  case round =>
    obtain ⟨k, m, xs, rfl, hm, hput, hmk, hk, hown, hb⟩ := hrel
    by_cases hlt : m < 128
    · have hfin : put n = xs ++ [UInt8.ofNat m] := by rw [← hput]; cases k <;> simp [putF, hlt]
      have Hf := Lib.hid hfin
      clear hfin hput
      go_wp2_with (at_builtin; refine wpList_push elB rfl _ _ rfl rfl rfl hown rfl rfl (by unfold maxLen; omega) (by omega) hb.size ?_; intro v1 w1 hown1 hgrow1 hblk1)
      go_ret
      rw [Hf.out]
      exact ⟨_, rfl, own_snoc hown1 rfl (bc_ofNat (by omega)).symm, hb.grown hgrow1 hb.size (fun k hk => (hown.lt k hk).1)⟩
    · obtain ⟨j, rfl⟩ : ∃ j, k = j + 1 := ⟨k - 1, by cases k <;> omega⟩
      have hstep : (xs ++ [UInt8.ofNat (m % 128 + 128)]) ++ putF j (m / 128) = put n := by rw [← hput]; simp [putF, hlt]
      have Hf := Lib.hid hstep
      have hj : m / 128 < 2 * 128 ^ j := by rw [Nat.pow_succ] at hmk; omega
      clear hstep hput hmk
      go_wp2_with (at_builtin; refine wpList_push elB rfl _ _ rfl rfl rfl hown rfl rfl (by unfold maxLen; omega) (by omega) hb.size ?_; intro v1 w1 hown1 hgrow1 hblk1)
      go_roundw
      case rel => exact ⟨j, m / 128, _, by go_num, by omega, Hf.out, hj, by simp; omega, own_snoc hown1 rfl (by rw [bc_ofNat (by omega)]; exact congrArg (Value.int .u8) (top1' m)), hb.grown hgrow1 hb.size (fun k hk => (hown.lt k hk).1)⟩
      case measure => simp [intOf]; omega

/-- What 'Get' answers. -/
def getV (b : List UInt8) : Value := match get b with
  | none => .tuple #[.int .i64 0, .int .i64 0, .int .i64 3]
  | some (n, k) => .tuple #[.int .i64 n, .int .i64 k, .int .i64 0]

theorem pow_9 {k : Nat} (hk : k ≤ 8) : 128 ^ k * 128 ≤ 9223372036854775808 := by
  have : 128 ^ k ≤ 128 ^ 8 := Nat.pow_le_pow_right (by decide) hk
  have e : (128 : Nat) ^ 8 = 72057594037927936 := by decide
  omega

set_option maxRecDepth 100000 in
set_option maxHeartbeats 400000 in
theorem get_any (v : Value) (b : List UInt8) (w : World) (h : Rd w v b.length (b.map bc)) :
    Calls Try.prog 85 #[v] w fun e w' => e = .returned (getV b) ∧ w = w' := by
  obtain ⟨ao, c, rfl, hna, hma, _, _⟩ := id h
  unfold maxLen at hma
  have HA := Lib.hid h
  clear h
  go_enter Try.func85, Try.ntmps85
  go_wp2_with fail
  go_loop [5, 10] (fun u i => ∃ k m : Nat, k ≤ b.length ∧ k ≤ 9 ∧ i = .int .i64 k ∧ u = .int .u64 m ∧ m < 128 ^ k ∧ m < 18446744073709551616 ∧ Hid (dec 0 b = (dec k (b.drop k)).map fun p => (m + 128 ^ k * p.1, k + p.2))) (fun _ i => b.length - (intOf i).toNat)
  case atStart => exact ⟨0, 0, Nat.zero_le _, by omega, rfl, rfl, by decide, by decide, by simp [Hid]⟩
  case round =>
    obtain ⟨k, m, hk, hk9, rfl, rfl, hm, hm64, hdec⟩ := hrel
    by_cases hlt : k < b.length
    · obtain ⟨A1, hi1, hc1, _⟩ := rd_byte HA.out rfl k hlt
      have hx := b[k].toNat_lt
      have Hat := Lib.hid (dec_at hlt)
      have Hnext := @dec_next b k m hdec.out hlt
      have Hn := Lib.hid Hnext
      clear Hnext
      have hb1 : k ≤ 8 → 128 ^ k * (b[k].toNat % 128) < 9223372036854775808 := fun h => by
        have := pow_9 h
        have h2 : 128 ^ k * (b[k].toNat % 128) < 128 ^ k * 128 := Nat.mul_lt_mul_of_pos_left (by omega) (Nat.pow_pos (by omega))
        omega
      have Hb1 := Lib.hid hb1
      clear hb1
      by_cases hbad : (k = 9 ∧ 1 < b[k].toNat) ∨ 9 < k
      · obtain ⟨h9, hx1⟩ : k = 9 ∧ 1 < b[k].toNat := by omega
        have hg : getV b = .tuple #[.int .i64 0, .int .i64 0, .int .i64 3] := by
          unfold getV; rw [get_of_none hdec.out (by rw [Hat.out, if_pos hbad])]
        have Hg := Lib.hid hg
        have e9 : ((k : Int) == 9) = true := by simp; omega
        clear hg h9 hbad
        go_wp2_with fail
        go_ret3
        exact ⟨ret3 Hg.out rfl rfl rfl, rfl⟩
      · have hor := get_bits k m b[k].toNat hm hx
        by_cases hx7 : b[k].toNat < 128
        · by_cases hx0 : b[k].toNat = 0 ∧ 0 < k
          · have hg : getV b = .tuple #[.int .i64 0, .int .i64 0, .int .i64 3] := by
              unfold getV; rw [get_of_none hdec.out (by rw [Hat.out, if_neg hbad, if_pos hx7, if_pos hx0])]
            have Hg := Lib.hid hg
            have Hor := Lib.hid hor
            have Hbad := Lib.hid hbad
            have hz0 : ((b[k].toNat : Int) == 0) = true := by simp; omega
            have hk0 : 0 < k := hx0.2
            clear hg hor hbad hx0
            go_wp2_with fail
            all_goals go_ret3
            all_goals exact ⟨ret3 Hg.out rfl rfl rfl, rfl⟩
          · have hg : getV b = .tuple #[.int .i64 (zag (m + 128 ^ k * b[k].toNat)), .int .i64 ((k + 1 : Nat) : Int), .int .i64 0] := by
              unfold getV; rw [get_of_some hdec.out (by rw [Hat.out, if_neg hbad, if_pos hx7, if_neg hx0])]
            have hfit : m + 128 ^ k * b[k].toNat < 18446744073709551616 := by
              by_cases h9 : k = 9
              · have h1 : b[k].toNat ≤ 1 := by omega
                have e : (128 : Nat) ^ k = 9223372036854775808 := by rw [h9]
                rw [e] at hm ⊢
                generalize b[k].toNat = x at h1 ⊢
                omega
              · have := Hb1.out (by omega)
                have h2 := pow_9 (k := k) (by omega)
                rw [Nat.mod_eq_of_lt hx7] at this
                omega
            have hor' := hor (by rw [Nat.mod_eq_of_lt hx7]; omega) hm64
            rw [Nat.mod_eq_of_lt hx7] at hor'
            have hz := zag_bits _ hfit
            have Hg := Lib.hid hg
            have Hor := Lib.hid hor'
            have Hbad := Lib.hid hbad
            have Hz := Lib.hid hz
            clear hg hor hor' hbad hz hfit
            by_cases h9 : k = 9
            · have e9 : ((k : Int) == 9) = true := by simp; omega
              have h1 : b[k].toNat ≤ 1 := by have := Hbad.out; omega
              have e0 : ((b[k].toNat : Int) == 0) = false := by simp; omega
              have H9 := Lib.hid h9
              clear h9
              go_wp2_with fail
              all_goals go_ret3
              all_goals exact ⟨ret3 Hg.out (by rw [Hor.out, Hz.out]; rfl) rfl rfl, rfl⟩
            · have e9 : ((k : Int) == 9) = false := by simp; omega
              have H9 := Lib.hid h9
              clear h9
              by_cases h0 : b[k].toNat = 0
              · have e0 : ((b[k].toNat : Int) == 0) = true := by simp; omega
                have hk0 : k ≤ 0 := by omega
                have H0 := Lib.hid h0
                clear h0
                go_wp2_with fail
                all_goals go_ret3
                all_goals exact ⟨ret3 Hg.out (by rw [Hor.out, Hz.out]; rfl) rfl rfl, rfl⟩
              · have e0 : ((b[k].toNat : Int) == 0) = false := by simp; omega
                go_wp2_with fail
                all_goals go_ret3
                all_goals exact ⟨ret3 Hg.out (by rw [Hor.out, Hz.out]; rfl) rfl rfl, rfl⟩
        · have h9 : k < 9 := by omega
          have hb := Hb1.out (by omega)
          have h2 := pow_9 (k := k) (by omega)
          have Hor := Lib.hid (hor (by omega) hm64)
          have hm1 : m + 128 ^ k * (b[k].toNat % 128) < 128 ^ (k + 1) := by
            have : 128 ^ k * (b[k].toNat % 128) ≤ 128 ^ k * 127 := Nat.mul_le_mul_left _ (by omega)
            rw [Nat.pow_succ]; omega
          have hm2 : m + 128 ^ k * (b[k].toNat % 128) < 18446744073709551616 := by omega
          have e9 : ((k : Int) == 9) = false := by simp; omega
          clear hb h2 hor hbad
          have Hm1 := Lib.hid hm1
          have Hm2 := Lib.hid hm2
          clear hm1 hm2
          go_wp2_with fail
          go_round
          case rel => exact ⟨k + 1, _, by omega, by omega, by go_num, congrArg (Value.int .u64) Hor.out, Hm1.out, Hm2.out, Hn.out h9 hx7⟩
          case measure => simp [intOf]; omega
    · have hg : getV b = .tuple #[.int .i64 0, .int .i64 0, .int .i64 3] := by
        unfold getV; rw [dec_nil_step hdec.out (by omega)]
      have Hg := Lib.hid hg
      clear hg
      go_wp2_with fail
      go_ret3
      exact ⟨ret3 Hg.out rfl rfl rfl, rfl⟩

theorem same_at {va vb : Value} {na nb : Nat} {la lb : List UInt8} {w : World} (ha : Rd w va na (la.map bc)) (hna : na = la.length) (hb : Rd w vb nb (lb.map bc)) (hnb : nb = lb.length) :
    Calls Try.prog 18 #[va, vb] w fun e w' => e = .returned (.bool (la == lb)) ∧ Below w.heap.size w w' := by
  subst hna hnb
  exact same_any va vb la lb w ha hb

theorem same_true {va vb : Value} {na nb : Nat} {la lb : List UInt8} {w : World} (ha : Rd w va na (la.map bc)) (hna : na = la.length) (hb : Rd w vb nb (lb.map bc)) (hnb : nb = lb.length) (h : la = lb) :
    Calls Try.prog 18 #[va, vb] w fun e w' => e = .returned (.bool true) ∧ Below w.heap.size w w' := by
  have := same_at ha hna hb hnb
  rw [show (la == lb) = true by simp [h]] at this
  exact this
end Go.Proofs.Ytliokkoalkhpaaa
