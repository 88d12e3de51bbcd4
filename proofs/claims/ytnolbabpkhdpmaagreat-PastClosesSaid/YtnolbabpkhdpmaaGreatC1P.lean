/-
  Layer 1 (code), plain: what the bytes of numbers, texts and rows of numbers are, and what is got of bytes. No program here.
-/
import Derived.Test.YtnolbabpkhdpmaaGreatBase
import Derived.Lib.Zigzag
namespace Go.Proofs.YtnolbabpkhdpmaaGreat
open Go.RowKit

def zig (n : Int) : Nat := (if 0 ≤ n then 2 * n else 2 * (-(n+1)) + 1).toNat
def zag (u : Nat) : Int := if u % 2 = 0 then (u / 2 : Nat) else -((u / 2 : Nat) : Int) - 1

theorem zig_lt (n : Int) (h0 : -9223372036854775808 ≤ n) (h1 : n ≤ 9223372036854775807) : zig n < 18446744073709551616 := by
  unfold zig; split <;> omega
theorem zag_zig (n : Int) : zag (zig n) = n := by unfold zag zig; split <;> split <;> omega
theorem zig_zag (u : Nat) : zig (zag u) = u := by unfold zag zig; split <;> split <;> omega
theorem zag_bd (u : Nat) (h : u < 18446744073709551616) : -9223372036854775808 ≤ zag u ∧ zag u ≤ 9223372036854775807 := by unfold zag; split <;> omega

def putF : Nat → Nat → List UInt8
  | 0, u => [UInt8.ofNat u]
  | f + 1, u => if u < 128 then [UInt8.ofNat u] else UInt8.ofNat (u % 128 + 128) :: putF f (u / 128)

def put (n : Int) : List UInt8 := putF 9 (zig n)

theorem putF_len (f u : Nat) : 1 ≤ (putF f u).length ∧ (putF f u).length ≤ f + 1 := by
  induction f generalizing u with
  | zero => simp [putF]
  | succ f ih =>
    unfold putF
    split
    · simp
    · have := ih (u / 128)
      simp only [List.length_cons]
      omega
theorem put_len (n : Int) : 1 ≤ (put n).length ∧ (put n).length ≤ 10 := putF_len 9 _

def dec : Nat → List UInt8 → Option (Nat × Nat)
  | _, [] => none
  | k, x :: r =>
    if (k = 9 ∧ 1 < x.toNat) ∨ 9 < k then none
    else if x.toNat < 128 then (if x.toNat = 0 ∧ 0 < k then none else some (x.toNat, 1))
    else (dec (k + 1) r).map fun p => (x.toNat % 128 + 128 * p.1, p.2 + 1)

theorem toNat_ofNat {x : Nat} (h : x < 256) : (UInt8.ofNat x).toNat = x := by
  rw [UInt8.toNat_ofNat']; exact Nat.mod_eq_of_lt h

theorem dec_put (f : Nat) : ∀ (k u : Nat) (r : List UInt8), k + f = 9 → u < 2 * 128 ^ f → (k = 0 ∨ 0 < u) → dec k (putF f u ++ r) = some (u, (putF f u).length) := by
  induction f with
  | zero =>
    intro k u r hk hu h0
    have hu2 : u < 2 := by simpa using hu
    have e : (UInt8.ofNat u).toNat = u := toNat_ofNat (by omega)
    simp only [putF, List.cons_append, List.nil_append, dec, e]
    rw [if_neg (by omega), if_pos (by omega), if_neg (by omega)]
    rfl
  | succ f ih =>
    intro k u r hk hu h0
    unfold putF
    by_cases hlt : u < 128
    · have e : (UInt8.ofNat u).toNat = u := toNat_ofNat (by omega)
      simp only [hlt, if_true, List.cons_append, List.nil_append, dec, e]
      rw [if_neg (by omega), if_neg (by omega)]
      rfl
    · have e : (UInt8.ofNat (u % 128 + 128)).toNat = u % 128 + 128 := toNat_ofNat (by omega)
      have hd : u / 128 < 2 * 128 ^ f := by
        rw [Nat.pow_succ] at hu
        omega
      simp only [hlt, if_false, List.cons_append, dec, e]
      rw [if_neg (by omega), if_neg (by omega), ih (k + 1) (u / 128) r (by omega) hd (by omega)]
      simp only [Option.map_some, List.length_cons]
      congr 2
      omega

theorem dec_some (b : List UInt8) : ∀ (k u n : Nat), dec k b = some (u, n) → ∃ f, k + f = 9 ∧ u < 2 * 128 ^ f ∧ (k = 0 ∨ 0 < u) ∧ b = putF f u ++ b.drop n ∧ n = (putF f u).length := by
  induction b with
  | nil => intro k u n h; simp [dec] at h
  | cons x r ih =>
    intro k u n h
    have hx := x.toNat_lt
    unfold dec at h
    by_cases h1 : (k = 9 ∧ 1 < x.toNat) ∨ 9 < k
    · rw [if_pos h1] at h; cases h
    · rw [if_neg h1] at h
      by_cases h2 : x.toNat < 128
      · rw [if_pos h2] at h
        by_cases h3 : x.toNat = 0 ∧ 0 < k
        · rw [if_pos h3] at h; cases h
        · rw [if_neg h3] at h
          simp only [Option.some.injEq, Prod.mk.injEq] at h
          obtain ⟨rfl, rfl⟩ := h
          have ex : UInt8.ofNat x.toNat = x := by simp
          cases hf : 9 - k with
          | zero =>
            refine ⟨0, by omega, by simp; omega, by omega, ?_, ?_⟩ <;> simp [putF, ex]
          | succ f =>
            refine ⟨f + 1, by omega, ?_, by omega, ?_, ?_⟩
            · have : 1 ≤ 128 ^ f := Nat.one_le_pow _ _ (by omega)
              rw [Nat.pow_succ]; omega
            · simp [putF, ex, h2]
            · simp [putF, h2]
      · rw [if_neg h2] at h
        cases hd : dec (k + 1) r with
        | none => rw [hd] at h; cases h
        | some p =>
          obtain ⟨u', n'⟩ := p
          rw [hd] at h
          simp only [Option.map_some, Option.some.injEq, Prod.mk.injEq] at h
          obtain ⟨rfl, rfl⟩ := h
          obtain ⟨f, hf, hu, h0, hb, hn⟩ := ih (k + 1) u' n' hd
          have hne : ¬ (x.toNat % 128 + 128 * u' < 128) := by omega
          have e1 : (x.toNat % 128 + 128 * u') % 128 + 128 = x.toNat := by omega
          have e2 : (x.toNat % 128 + 128 * u') / 128 = u' := by omega
          have ex : UInt8.ofNat x.toNat = x := by simp
          refine ⟨f + 1, by omega, ?_, by omega, ?_, ?_⟩
          · rw [Nat.pow_succ]; omega
          · simp only [putF, hne, if_false, e1, e2, ex, List.cons_append, List.drop_succ_cons]
            rw [← hb]
          · simp only [putF, hne, if_false, e2, List.length_cons]
            omega

theorem bound9 : 2 * 128 ^ 9 = 18446744073709551616 := by decide

def get (b : List UInt8) : Option (Int × Nat) := (dec 0 b).map fun p => (zag p.1, p.2)

theorem get_put (n : Int) (h0 : -9223372036854775808 ≤ n) (h1 : n ≤ 9223372036854775807) (r : List UInt8) : get (put n ++ r) = some (n, (put n).length) := by
  unfold get put
  rw [dec_put 9 0 (zig n) r rfl (by rw [bound9]; exact zig_lt n h0 h1) (.inl rfl)]
  simp [zag_zig]

theorem get_some {b : List UInt8} {n : Int} {m : Nat} (h : get b = some (n, m)) : -9223372036854775808 ≤ n ∧ n ≤ 9223372036854775807 ∧ b = put n ++ b.drop m ∧ m = (put n).length := by
  unfold get at h
  cases hd : dec 0 b with
  | none => rw [hd] at h; cases h
  | some p =>
    obtain ⟨u, k⟩ := p
    rw [hd] at h
    simp only [Option.map_some, Option.some.injEq, Prod.mk.injEq] at h
    obtain ⟨rfl, rfl⟩ := h
    obtain ⟨f, hf, hu, _, hb, hn⟩ := dec_some b 0 u k hd
    obtain rfl : f = 9 := by omega
    rw [bound9] at hu
    have := zag_bd u hu
    exact ⟨this.1, this.2, by unfold put; rw [zig_zag]; exact hb, by unfold put; rw [zig_zag]; exact hn⟩

theorem get_le {b : List UInt8} {n : Int} {m : Nat} (h : get b = some (n, m)) : 1 ≤ m ∧ m ≤ 10 ∧ m ≤ b.length := by
  obtain ⟨_, _, hb, hm⟩ := get_some h
  have := put_len n
  have hl := congrArg List.length hb
  simp only [List.length_append] at hl
  omega

/-- What is got of a beginning, whatever stands behind, is got of the whole. -/
theorem get_more {b : List UInt8} {n : Int} {m : Nat} (h : get b = some (n, m)) (r : List UInt8) : get (b ++ r) = some (n, m) := by
  obtain ⟨h0, h1, hb, hm⟩ := get_some h
  rw [hb, List.append_assoc, get_put n h0 h1, hm]

/-- Of a beginning that is shorter nothing is got. -/
theorem get_short (n : Int) (h0 : -9223372036854775808 ≤ n) (h1 : n ≤ 9223372036854775807) (k : Nat) (hk : k < (put n).length) (r : List UInt8) : get ((put n ++ r).take k) = none := by
  cases hg : get ((put n ++ r).take k) with
  | none => rfl
  | some p =>
    obtain ⟨m, j⟩ := p
    have h2 := get_more hg ((put n ++ r).drop k)
    rw [List.take_append_drop, get_put n h0 h1] at h2
    simp only [Option.some.injEq, Prod.mk.injEq] at h2
    have := (get_le hg).2.2
    simp only [List.length_take, List.length_append] at this
    omega

theorem put_inj {m n : Int} (h0 : -9223372036854775808 ≤ m) (h1 : m ≤ 9223372036854775807) (h2 : -9223372036854775808 ≤ n) (h3 : n ≤ 9223372036854775807) (h : put m = put n) : m = n := by
  have e1 := get_put m h0 h1 []
  have e2 := get_put n h2 h3 []
  rw [h] at e1
  rw [e1] at e2
  simp at e2
  exact e2

theorem putF_mono (f : Nat) : ∀ (u v : Nat), u ≤ v → (putF f u).length ≤ (putF f v).length := by
  induction f with
  | zero => intro u v _; simp [putF]
  | succ f ih =>
    intro u v h
    unfold putF
    by_cases h1 : u < 128
    · rw [if_pos h1]
      split
      · simp
      · simp
    · rw [if_neg h1, if_neg (by omega)]
      have := ih (u / 128) (v / 128) (Nat.div_le_div_right h)
      simp only [List.length_cons]
      omega

/-! Bits. -/
theorem low7 (x : Nat) (h : x < 256) : bits .andNot .u8 (x : Int) 128 = ((x % 128 : Nat) : Int) := by
  have key : ∀ y : Fin 256, bits .andNot .u8 ((y.val : Nat) : Int) 128 = ((y.val % 128 : Nat) : Int) := by decide +kernel
  exact key ⟨x, h⟩

theorem top1 (x : Nat) (h : x < 256) : bits .or .u8 (x : Int) 128 = ((x % 128 + 128 : Nat) : Int) := by
  have key : ∀ y : Fin 256, bits .or .u8 ((y.val : Nat) : Int) 128 = ((y.val % 128 + 128 : Nat) : Int) := by decide +kernel
  exact key ⟨x, h⟩

theorem top1' (m : Nat) : bits .or .u8 ((m : Int) % 256) 128 = ((m % 128 + 128 : Nat) : Int) := by
  have h := top1 (m % 256) (by omega)
  have e : m % 256 % 128 = m % 128 := by omega
  rw [e] at h
  rw [← h]
  congr 1

theorem or_shl (k m y : Nat) (hm : m < 128 ^ k) (h : 128 ^ k * y < 18446744073709551616) (hm2 : m < 18446744073709551616) :
    bits .or .u64 (m : Int) (IntKind.u64.wrap ((y : Int) * 2 ^ (7 * k))) = ((m + 128 ^ k * y : Nat) : Int) := by
  have hp : (128 : Nat) ^ k = 2 ^ (7 * k) := by rw [Nat.pow_mul]
  have e : IntKind.u64.wrap ((y : Int) * 2 ^ (7 * k)) = ((128 ^ k * y : Nat) : Int) := by
    have : ((y : Int) * 2 ^ (7 * k)) = ((128 ^ k * y : Nat) : Int) := by
      rw [hp]; push_cast; rw [Int.mul_comm]
    rw [this, IntKind.wrap_u64]
    generalize 128 ^ k * y = q at h ⊢
    omega
  rw [e, bits_or_u64_nat _ _ hm2 h, Nat.or_comm]
  congr 1
  rw [hp] at hm ⊢
  rw [← Nat.two_pow_add_eq_or_of_lt hm, Nat.add_comm]

theorem get_bits (k m x : Nat) (hm : m < 128 ^ k) (hx : x < 256) (h : 128 ^ k * (x % 128) < 18446744073709551616) (hm2 : m < 18446744073709551616) :
    bits .or .u64 (m : Int) (IntKind.u64.wrap (IntKind.u64.wrap (bits .andNot .u8 (x : Int) 128) * 2 ^ (7 * k))) = ((m + 128 ^ k * (x % 128) : Nat) : Int) := by
  rw [low7 x hx]
  have e : IntKind.u64.wrap ((x % 128 : Nat) : Int) = ((x % 128 : Nat) : Int) := by rw [IntKind.wrap_u64]; omega
  rw [e, or_shl k m (x % 128) hm h hm2]

theorem zag_bits (u : Nat) (h : u < 18446744073709551616) : bits .xor .i64 (wrap64 ((u : Int) / 2)) (wrap64 (-wrap64 (bits .and .u64 (u : Int) 1))) = zag u := by
  rw [Lib.u64_and1 _ (by omega) (by omega)]
  have e1 : wrap64 ((u : Int) / 2) = ((u / 2 : Nat) : Int) := by unfold wrap64; omega
  have e2 : wrap64 ((u : Int) % 2) = ((u % 2 : Nat) : Int) := by unfold wrap64; omega
  rw [e1, e2]
  unfold zag
  by_cases hz : u % 2 = 0
  · rw [if_pos hz, hz]
    have e3 : wrap64 (-((0 : Nat) : Int)) = 0 := by unfold wrap64; omega
    rw [e3]
    show IntKind.i64.wrap ((BitVec.ofInt 64 ((u / 2 : Nat) : Int) ^^^ BitVec.ofInt 64 0).toNat : Int) = _
    have h2 : (BitVec.ofInt 64 ((u / 2 : Nat) : Int)).toNat = u / 2 := by
      rw [BitVec.ofInt_natCast, BitVec.toNat_ofNat]; exact Nat.mod_eq_of_lt (by omega)
    have h3 : (BitVec.ofInt 64 0).toNat = 0 := by decide
    rw [BitVec.toNat_xor, h2, h3, Nat.xor_zero, IntKind.wrap_i64]
    omega
  · have h1 : u % 2 = 1 := by omega
    rw [if_neg hz, h1]
    have e3 : wrap64 (-((1 : Nat) : Int)) = -1 := by unfold wrap64; omega
    rw [e3]
    show IntKind.i64.wrap ((BitVec.ofInt 64 ((u / 2 : Nat) : Int) ^^^ BitVec.ofInt 64 (-1)).toNat : Int) = _
    have h2 : (BitVec.ofInt 64 ((u / 2 : Nat) : Int)).toNat = u / 2 := by
      rw [BitVec.ofInt_natCast, BitVec.toNat_ofNat]; exact Nat.mod_eq_of_lt (by omega)
    have h3 : (BitVec.ofInt 64 (-1)).toNat = 2 ^ 64 - 1 := by decide
    rw [BitVec.toNat_xor, h2, h3, Nat.xor_comm, Lib.xor_ones64 _ (by omega), IntKind.wrap_i64]
    omega

/-- The number that 'n<<1 ^ n>>63' is. -/
theorem zig_bits (n : Int) (h0 : -9223372036854775808 ≤ n) (h1 : n ≤ 9223372036854775807) :
    bits .xor .u64 (IntKind.u64.wrap (IntKind.u64.wrap n * 2)) (IntKind.u64.wrap (n / 9223372036854775808)) = (zig n : Int) := by
  by_cases hn : 0 ≤ n
  · have e1 : IntKind.u64.wrap (IntKind.u64.wrap n * 2) = ((zig n : Nat) : Int) := by
      rw [IntKind.wrap_u64, IntKind.wrap_u64]; unfold zig; rw [if_pos hn]; omega
    have e2 : IntKind.u64.wrap (n / 9223372036854775808) = ((0 : Nat) : Int) := by
      rw [IntKind.wrap_u64]; omega
    rw [e1, e2, bits_xor_u64_nat _ _ (zig_lt n h0 h1) (by decide), Nat.xor_zero]
  · have e1 : IntKind.u64.wrap (IntKind.u64.wrap n * 2) = (((2 * n + 18446744073709551616).toNat : Nat) : Int) := by
      rw [IntKind.wrap_u64, IntKind.wrap_u64]; omega
    have e2 : IntKind.u64.wrap (n / 9223372036854775808) = ((2 ^ 64 - 1 : Nat) : Int) := by
      rw [IntKind.wrap_u64]; omega
    rw [e1, e2, bits_xor_u64_nat _ _ (by omega) (by decide), Nat.xor_comm, Lib.xor_ones64 _ (by omega)]
    unfold zig
    rw [if_neg hn]
    omega

/-! The steps of the loop that gets. -/
theorem dec_nil_step {b : List UInt8} {k m : Nat} (h : dec 0 b = (dec k (b.drop k)).map fun p => (m + 128 ^ k * p.1, k + p.2)) (hk : b.length ≤ k) : get b = none := by
  rw [List.drop_eq_nil_of_le hk] at h
  unfold get
  rw [h]
  rfl
theorem dec_at {b : List UInt8} {k : Nat} (hk : k < b.length) : dec k (b.drop k) =
    if (k = 9 ∧ 1 < b[k].toNat) ∨ 9 < k then none
    else if b[k].toNat < 128 then (if b[k].toNat = 0 ∧ 0 < k then none else some (b[k].toNat, 1))
    else (dec (k + 1) (b.drop (k + 1))).map fun p => (b[k].toNat % 128 + 128 * p.1, p.2 + 1) := by
  rw [List.drop_eq_getElem_cons hk]
  rfl
theorem get_of_none {b : List UInt8} {k m : Nat} (h : dec 0 b = (dec k (b.drop k)).map fun p => (m + 128 ^ k * p.1, k + p.2)) (hn : dec k (b.drop k) = none) : get b = none := by
  unfold get; rw [h, hn]; rfl
theorem get_of_some {b : List UInt8} {k m x : Nat} (h : dec 0 b = (dec k (b.drop k)).map fun p => (m + 128 ^ k * p.1, k + p.2)) (hn : dec k (b.drop k) = some (x, 1)) : get b = some (zag (m + 128 ^ k * x), k + 1) := by
  unfold get; rw [h, hn]; rfl
theorem dec_next {b : List UInt8} {k m : Nat} (h : dec 0 b = (dec k (b.drop k)).map fun p => (m + 128 ^ k * p.1, k + p.2)) (hk : k < b.length) (h9 : k < 9) (hx : ¬ b[k].toNat < 128) :
    dec 0 b = (dec (k + 1) (b.drop (k + 1))).map fun p => (m + 128 ^ k * (b[k].toNat % 128) + 128 ^ (k + 1) * p.1, k + 1 + p.2) := by
  rw [h, dec_at hk, if_neg (by omega), if_neg hx, Option.map_map]
  congr 1
  funext p
  simp only [Function.comp]
  rw [Nat.mul_add, Nat.pow_succ, Nat.mul_assoc]
  simp only [Prod.mk.injEq]
  constructor <;> omega

/-! How the reference gets. -/
def val : List UInt8 → Nat
  | [] => 0
  | x :: r => x.toNat % 128 + 128 * val r

theorem val_putF (f : Nat) : ∀ u, u < 2 * 128 ^ f → val (putF f u) = u := by
  induction f with
  | zero =>
    intro u hu
    have hu2 : u < 2 := by simpa using hu
    simp [putF, val, toNat_ofNat (show u < 256 by omega)]
    omega
  | succ f ih =>
    intro u hu
    unfold putF
    by_cases h : u < 128
    · simp [h, val, toNat_ofNat (show u < 256 by omega)]
    · have hd : u / 128 < 2 * 128 ^ f := by rw [Nat.pow_succ] at hu; omega
      rw [if_neg h]
      simp only [val, toNat_ofNat (show u % 128 + 128 < 256 by omega), ih _ hd]
      omega

/-- All bytes of a number but the last one say that there is another one. -/
theorem putF_more (f : Nat) : ∀ (u j : Nat), u < 2 * 128 ^ f → (h : j < (putF f u).length) → (((putF f u)[j]).toNat < 128 ↔ j + 1 = (putF f u).length) := by
  induction f with
  | zero =>
    intro u j hu h
    have hu2 : u < 2 := by simpa using hu
    simp [putF] at h
    subst h
    simp [putF, toNat_ofNat (show u < 256 by omega)]
    omega
  | succ f ih =>
    intro u j hu h
    by_cases hlt : u < 128
    · have e : putF (f + 1) u = [UInt8.ofNat u] := by simp [putF, hlt]
      simp only [e] at h ⊢
      simp at h
      subst h
      simp [toNat_ofNat (show u < 256 by omega)]
      omega
    · have e : putF (f + 1) u = UInt8.ofNat (u % 128 + 128) :: putF f (u / 128) := by simp [putF, hlt]
      have hd : u / 128 < 2 * 128 ^ f := by rw [Nat.pow_succ] at hu; omega
      simp only [e] at h ⊢
      cases j with
      | zero =>
        have := (putF_len f (u / 128)).1
        simp only [List.getElem_cons_zero, toNat_ofNat (show u % 128 + 128 < 256 by omega), List.length_cons]
        omega
      | succ j =>
        have := ih (u / 128) j hd (by simpa using h)
        simpa using this

theorem get_lead {b : List UInt8} {n : Int} {m : Nat} (h : get b = some (n, m)) : (∀ j, (hj : j < b.length) → j + 1 < m → 128 ≤ (b[j]).toNat) ∧ (∀ (hj : m - 1 < b.length), (b[m - 1]).toNat < 128) := by
  obtain ⟨h0, h1, hb, hm⟩ := get_some h
  have hl := get_le h
  have hz := zig_lt n h0 h1
  rw [← bound9] at hz
  have key : ∀ j, (hj : j < b.length) → j < m → ((b[j]).toNat < 128 ↔ j + 1 = m) := by
    intro j hj hjm
    have hjl : j < (putF 9 (zig n)).length := by show j < (put n).length; omega
    have e : b[j] = (putF 9 (zig n))[j] := by
      have : b[j]? = (put n ++ b.drop m)[j]? := by rw [← hb]
      rw [List.getElem?_eq_getElem hj, List.getElem?_append_left (by show j < (put n).length; omega)] at this
      have e2 : (put n)[j]? = some (putF 9 (zig n))[j] := List.getElem?_eq_getElem hjl
      rw [e2] at this
      simpa using this
    rw [e, putF_more 9 _ _ hz hjl]
    show j + 1 = (put n).length ↔ _
    omega
  refine ⟨fun j hj hjm => ?_, fun hj => ?_⟩
  · have := key j hj (by omega)
    omega
  · have := key (m - 1) hj (by omega)
    omega

/-- What the reference's answer hangs on: where the first byte stands that says that there is no other one. -/
theorem get_ref {b : List UInt8} {k : Nat} (hk : k < b.length) (hlead : ∀ j, (hj : j < b.length) → j < k → 128 ≤ (b[j]).toNat) (hlast : (b[k]).toNat < 128) :
    get b = if put (zag (val (b.take (k + 1)) % 18446744073709551616)) = b.take (k + 1) then some (zag (val (b.take (k + 1)) % 18446744073709551616), k + 1) else none := by
  have hzl : val (b.take (k + 1)) % 18446744073709551616 < 18446744073709551616 := Nat.mod_lt _ (by decide)
  split
  · rename_i he
    have hbd := zag_bd _ hzl
    have h1 := get_put _ hbd.1 hbd.2 (b.drop (k + 1))
    rw [he, List.take_append_drop] at h1
    rw [h1]
    simp
    omega
  · rename_i hne
    cases hg : get b with
    | none => rfl
    | some p =>
      obtain ⟨n, m⟩ := p
      obtain ⟨h0, h1, hb, hm⟩ := get_some hg
      have hl := get_le hg
      obtain ⟨g1, g2⟩ := get_lead hg
      have hmk : m = k + 1 := by
        have a1 := g2 (by omega)
        rcases Nat.lt_trichotomy m (k + 1) with h | h | h
        · have := hlead (m - 1) (by omega) (by omega); omega
        · exact h
        · have := g1 k hk (by omega); omega
      have hz := zig_lt n h0 h1
      have hput : put n = b.take (k + 1) := by
        conv => rhs; rw [hb]
        rw [← hmk, hm]
        simp
      have hv : val (b.take (k + 1)) = zig n := by
        rw [← hput]
        exact val_putF 9 _ (by rw [bound9]; exact hz)
      apply absurd hput
      rw [hv, Nat.mod_eq_of_lt hz, zag_zig] at hne
      exact hne

/-- No such byte among the first ten, or none at all. -/
theorem get_ref_none {b : List UInt8} {k : Nat} (hk : k = b.length ∨ k = 10) (hlead : ∀ j, (hj : j < b.length) → j < k → 128 ≤ (b[j]).toNat) : get b = none := by
  cases hg : get b with
  | none => rfl
  | some p =>
    obtain ⟨n, m⟩ := p
    have hl := get_le hg
    have g2 := (get_lead hg).2 (by omega)
    have := hlead (m - 1) (by omega) (by omega)
    omega

theorem val_drop {b : List UInt8} {j : Nat} (hj : j < b.length) : val (b.drop j) = (b[j]).toNat % 128 + 128 * val (b.drop (j + 1)) := by
  rw [List.drop_eq_getElem_cons hj]
  rfl

theorem val_step {b : List UInt8} {k j : Nat} (hk : k < b.length) (hj : j ≤ k) : (128 * (val ((b.take (k + 1)).drop (j + 1)) % 18446744073709551616) % 18446744073709551616 + (b[j]).toNat % 128) % 18446744073709551616 = val ((b.take (k + 1)).drop j) % 18446744073709551616 := by
  have hl : j < (b.take (k + 1)).length := by simp; omega
  rw [val_drop hl]
  have e : (b.take (k + 1))[j] = b[j] := by simp
  rw [e]
  omega

/-- A text's bytes, and what is got. -/
def text (s : List UInt8) : List UInt8 := put s.length ++ s
def getText (b : List UInt8) : Option (List UInt8 × Nat) :=
  match get b with
  | none => none
  | some (n, k) => if n < 0 ∨ (b.length : Int) - k < n then none else some ((b.drop k).take n.toNat, k + n.toNat)

def nums (l : List Int) : List UInt8 := put l.length ++ l.flatMap put
def getK : Nat → List UInt8 → Option (List Int × Nat)
  | 0, _ => some ([], 0)
  | k + 1, b => match get b with
    | none => none
    | some (n, i) => match getK k (b.drop i) with
      | none => none
      | some (l, m) => some (n :: l, i + m)
def getNums (b : List UInt8) : Option (List Int × Nat) :=
  match get b with
  | none => none
  | some (many, k) => if many < 0 then none else match getK many.toNat (b.drop k) with
    | none => none
    | some (l, m) => some (l, k + m)

/-! The rounds of the loops that get rows of numbers. -/
theorem getK_le : ∀ (m : Nat) (b : List UInt8) (l : List Int) (t : Nat), getK m b = some (l, t) → l.length = m ∧ m ≤ t ∧ t ≤ b.length := by
  intro m
  induction m with
  | zero => intro b l t h; simp only [getK, Option.some.injEq, Prod.mk.injEq] at h; obtain ⟨rfl, rfl⟩ := h; simp
  | succ m ih =>
    intro b l t h
    unfold getK at h
    cases hg : get b with
    | none => rw [hg] at h; cases h
    | some p =>
      obtain ⟨n, i⟩ := p
      rw [hg] at h
      simp only at h
      cases hk : getK m (b.drop i) with
      | none => rw [hk] at h; cases h
      | some q =>
        obtain ⟨l', m'⟩ := q
        rw [hk] at h
        simp only [Option.some.injEq, Prod.mk.injEq] at h
        obtain ⟨rfl, rfl⟩ := h
        have h1 := ih _ _ _ hk
        have h2 := get_le hg
        simp only [List.length_drop] at h1
        simp only [List.length_cons]
        omega

/-- After so many rounds: what is still to be got, and what was got. -/
def Rounds (b : List UInt8) (left at_ : Nat) (outs : List Int) : Prop := getNums b = (getK left (b.drop at_)).map fun p => (outs ++ p.1, at_ + p.2)

theorem rounds_start {b : List UInt8} {many : Nat} {k : Nat} (h : get b = some ((many : Int), k)) : Rounds b many k [] := by
  unfold Rounds getNums
  rw [h]
  simp only [Int.toNat_natCast]
  rw [if_neg (by omega)]
  cases getK many (b.drop k) with
  | none => rfl
  | some p => rfl
theorem rounds_fail {b : List UInt8} {left at_ : Nat} {outs : List Int} (h : Rounds b (left + 1) at_ outs) (hg : get (b.drop at_) = none) : getNums b = none := by
  rw [h, getK, hg]
  rfl
theorem rounds_next {b : List UInt8} {left at_ i : Nat} {n : Int} {outs : List Int} (h : Rounds b (left + 1) at_ outs) (hg : get (b.drop at_) = some (n, i)) : Rounds b left (at_ + i) (outs ++ [n]) := by
  unfold Rounds at *
  rw [h, getK, hg]
  simp only [List.drop_drop]
  cases getK left (b.drop (at_ + i)) with
  | none => rfl
  | some p => simp [Nat.add_assoc]
theorem rounds_end {b : List UInt8} {at_ : Nat} {outs : List Int} (h : Rounds b 0 at_ outs) : getNums b = some (outs, at_) := by
  rw [h]
  simp [getK]
theorem getNums_no {b : List UInt8} (h : get b = none) : getNums b = none := by unfold getNums; rw [h]
theorem getNums_neg {b : List UInt8} {n : Int} {k : Nat} (h : get b = some (n, k)) (hn : n < 0) : getNums b = none := by unfold getNums; rw [h]; simp [hn]
theorem getNums_many {b : List UInt8} {n : Int} {k : Nat} (h : get b = some (n, k)) (hn : (b.length : Int) < n) : getNums b = none := by
  obtain ⟨m, rfl⟩ := Int.eq_ofNat_of_zero_le (show 0 ≤ n by omega)
  rw [rounds_start h]
  cases hk : getK m (b.drop k) with
  | none => rfl
  | some p =>
    have := getK_le _ _ p.1 p.2 hk
    simp only [List.length_drop] at this
    omega

/-- What is put is got. -/
theorem getK_put : ∀ (l : List Int) (r : List UInt8), (∀ x ∈ l, -9223372036854775808 ≤ x ∧ x ≤ 9223372036854775807) → getK l.length (l.flatMap put ++ r) = some (l, (l.flatMap put).length) := by
  intro l
  induction l with
  | nil => intro r _; simp [getK]
  | cons x l ih =>
    intro r hr
    have hx := hr x (List.mem_cons_self ..)
    simp only [List.flatMap_cons, List.append_assoc, List.length_cons, getK, get_put x hx.1 hx.2]
    have : (put x ++ (l.flatMap put ++ r)).drop (put x).length = l.flatMap put ++ r := by simp
    rw [this, ih r (fun y hy => hr y (List.mem_cons_of_mem _ hy))]
    simp

theorem getNums_nums (l : List Int) (r : List UInt8) (hl : l.length ≤ 9223372036854775807) (hr : ∀ x ∈ l, -9223372036854775808 ≤ x ∧ x ≤ 9223372036854775807) : getNums (nums l ++ r) = some (l, (nums l).length) := by
  have hg : get (nums l ++ r) = some ((l.length : Int), (put l.length).length) := by
    unfold nums
    rw [List.append_assoc, get_put _ (by omega) (by omega)]
  rw [rounds_start hg]
  have : (nums l ++ r).drop (put (l.length : Int)).length = l.flatMap put ++ r := by unfold nums; simp
  rw [this, getK_put l r hr]
  simp [nums]

/-! What is got of a beginning is got of the whole; nothing is got of what is shorter. -/
theorem getText_le {b s : List UInt8} {k : Nat} (h : getText b = some (s, k)) : k ≤ b.length := by
  unfold getText at h
  cases hg : get b with
  | none => rw [hg] at h; cases h
  | some p =>
    obtain ⟨n, i⟩ := p
    simp only [hg] at h
    have := get_le hg
    split at h
    · cases h
    · simp only [Option.some.injEq, Prod.mk.injEq] at h
      omega
theorem getText_more {b s : List UInt8} {k : Nat} (h : getText b = some (s, k)) (r : List UInt8) : getText (b ++ r) = some (s, k) := by
  unfold getText at *
  cases hg : get b with
  | none => rw [hg] at h; cases h
  | some p =>
    obtain ⟨n, i⟩ := p
    simp only [hg] at h
    have hl := get_le hg
    rw [get_more hg r]
    split at h
    · cases h
    · rename_i hn
      simp only [Option.some.injEq, Prod.mk.injEq] at h
      rw [← h.1, ← h.2]
      simp only [List.length_append]
      rw [if_neg (by omega)]
      rw [List.drop_append_of_le_length (by omega), List.take_append_of_le_length (by rw [List.length_drop]; omega)]
theorem getText_text (s r : List UInt8) (hs : s.length ≤ 9223372036854775807) : getText (text s ++ r) = some (s, (text s).length) := by
  unfold getText text
  rw [List.append_assoc, get_put _ (by omega) (by omega)]
  simp only [List.length_append]
  rw [if_neg (by omega)]
  simp
theorem getText_short (s : List UInt8) (hs : s.length ≤ 9223372036854775807) : getText ((text s).take ((text s).length - 1)) = none := by
  cases hg : getText ((text s).take ((text s).length - 1)) with
  | none => rfl
  | some p =>
    obtain ⟨t, k⟩ := p
    have h1 := getText_more hg ((text s).drop ((text s).length - 1))
    rw [List.take_append_drop] at h1
    have h2 := getText_text s [] hs
    rw [List.append_nil, h1] at h2
    simp only [Option.some.injEq, Prod.mk.injEq] at h2
    have h3 := getText_le hg
    have h4 := (put_len (s.length : Int)).1
    have h5 : (text s).length = (put (s.length : Int)).length + s.length := by simp [text]
    simp only [List.length_take] at h3
    omega
theorem getK_more : ∀ (m : Nat) (b : List UInt8) (l : List Int) (t : Nat) (r : List UInt8), getK m b = some (l, t) → getK m (b ++ r) = some (l, t) := by
  intro m
  induction m with
  | zero => intro b l t r h; exact h
  | succ m ih =>
    intro b l t r h
    unfold getK at h ⊢
    cases hg : get b with
    | none => rw [hg] at h; cases h
    | some p =>
      obtain ⟨n, i⟩ := p
      rw [hg] at h
      rw [get_more hg r]
      have hl := get_le hg
      simp only at h ⊢
      cases hk : getK m (b.drop i) with
      | none => rw [hk] at h; cases h
      | some q =>
        obtain ⟨l', m'⟩ := q
        rw [hk] at h
        rw [List.drop_append_of_le_length (by omega), ih _ _ _ r hk]
        exact h
theorem getNums_more {b : List UInt8} {l : List Int} {k : Nat} (h : getNums b = some (l, k)) (r : List UInt8) : getNums (b ++ r) = some (l, k) := by
  unfold getNums at *
  cases hg : get b with
  | none => rw [hg] at h; cases h
  | some p =>
    obtain ⟨n, i⟩ := p
    rw [hg] at h
    rw [get_more hg r]
    have hl := get_le hg
    simp only at h ⊢
    split at h
    · cases h
    · rename_i hn
      rw [if_neg hn]
      cases hk : getK n.toNat (b.drop i) with
      | none => rw [hk] at h; cases h
      | some q =>
        obtain ⟨l', m'⟩ := q
        rw [hk] at h
        rw [List.drop_append_of_le_length (by omega), getK_more _ _ _ _ r hk]
        exact h
theorem getNums_le {b : List UInt8} {l : List Int} {k : Nat} (h : getNums b = some (l, k)) : k ≤ b.length := by
  unfold getNums at h
  cases hg : get b with
  | none => rw [hg] at h; cases h
  | some p =>
    obtain ⟨n, i⟩ := p
    rw [hg] at h
    have hl := get_le hg
    simp only at h
    split at h
    · cases h
    · cases hk : getK n.toNat (b.drop i) with
      | none => rw [hk] at h; cases h
      | some q =>
        obtain ⟨l', m'⟩ := q
        rw [hk] at h
        simp only [Option.some.injEq, Prod.mk.injEq] at h
        have := getK_le _ _ _ _ hk
        simp only [List.length_drop] at this
        omega
theorem getNums_short (l : List Int) (hl : l.length ≤ 9223372036854775807) (hr : ∀ x ∈ l, -9223372036854775808 ≤ x ∧ x ≤ 9223372036854775807) : getNums ((nums l).take ((nums l).length - 1)) = none := by
  cases hg : getNums ((nums l).take ((nums l).length - 1)) with
  | none => rfl
  | some p =>
    obtain ⟨t, k⟩ := p
    have h1 := getNums_more hg ((nums l).drop ((nums l).length - 1))
    rw [List.take_append_drop] at h1
    have h2 := getNums_nums l [] hl hr
    rw [List.append_nil, h1] at h2
    simp only [Option.some.injEq, Prod.mk.injEq] at h2
    have h3 := getNums_le hg
    have h4 := (put_len (l.length : Int)).1
    have h5 : (put (l.length : Int)).length ≤ (nums l).length := by simp [nums]
    simp only [List.length_take] at h3
    omega
theorem nums_len (l : List Int) : (nums l).length ≤ 10 + 10 * l.length ∧ 1 ≤ (nums l).length := by
  have h1 := put_len (l.length : Int)
  have h2 : ∀ l : List Int, (l.flatMap put).length ≤ 10 * l.length := by
    intro l
    induction l with
    | nil => simp
    | cons x l ih =>
      have := (put_len x).2
      simp only [List.flatMap_cons, List.length_append, List.length_cons]
      omega
  have h3 := h2 l
  simp only [nums, List.length_append]
  omega
theorem put_longer {m n : Int} (h : (0 ≤ m ∧ m ≤ n) ∨ (m < 0 ∧ n ≤ m)) : (put m).length ≤ (put n).length := by
  unfold put
  apply putF_mono
  unfold zig
  split <;> split <;> omega

end Go.Proofs.YtnolbabpkhdpmaaGreat
