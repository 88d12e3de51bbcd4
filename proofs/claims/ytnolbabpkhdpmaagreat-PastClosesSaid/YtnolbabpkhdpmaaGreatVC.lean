/-
  Layer 5 (vector): Right, Upto, Same, Trim, Set of both sides: what they return.
-/
import Derived.Test.YtnolbabpkhdpmaaGreatMA
import Derived.Shelf.Abstract
namespace Go.Proofs.YtnolbabpkhdpmaaGreat
open Go.RowKit Go.Sort Go.BigFrame

/-! ### Plain -/
def badI (x : Int) : Bool := decide (x < 0) || decide (1048576 < x)
/-- May a vector be? -/
def rightVec (l : List Int) : Bool := decide (l.length ≤ 64) && !l.any badI
/-- Has one no more than another one? -/
def UptoV (a b : List Int) : Prop := ∀ d : Int, ofV a d ≤ ofV b d
def SameV (a b : List Int) : Prop := ∀ d : Int, ofV a d = ofV b d
def longN (a b : List Int) : Nat := max a.length b.length

theorem ofV_out {l : List Int} {d : Int} (h : d < 1 ∨ (l.length : Int) < d) : ofV l d = 0 := if_pos h
theorem ofV_getD (l : List Int) (j : Nat) : ofV l ((j : Int) + 1) = l.getD j 0 := by
  rcases Nat.lt_or_ge j l.length with h | h
  · rw [ofV_at h rfl, List.getD_eq_getElem?_getD, List.getElem?_eq_getElem h]; rfl
  · rw [ofV_out (.inr (by omega)), List.getD_eq_getElem?_getD, List.getElem?_eq_none h]; rfl
theorem ofV_ext {a b : List Int} (h : ∀ j : Nat, a.getD j 0 = b.getD j 0) (d : Int) : ofV a d = ofV b d := by
  by_cases h1 : d < 1
  · rw [ofV_lo h1, ofV_lo h1]
  · obtain ⟨j, rfl⟩ : ∃ j : Nat, d = (j : Int) + 1 := ⟨(d - 1).toNat, by omega⟩
    rw [ofV_getD, ofV_getD, h]
theorem upto_of {a b : List Int} {m : Nat} (hm : longN a b ≤ m) (h : ∀ j : Nat, j < m → ofV a ((j : Int) + 1) ≤ ofV b ((j : Int) + 1)) : UptoV a b := by
  intro d
  by_cases h1 : d < 1
  · rw [ofV_lo h1, ofV_lo h1]; exact Int.le_refl _
  · obtain ⟨j, rfl⟩ : ∃ j : Nat, d = (j : Int) + 1 := ⟨(d - 1).toNat, by omega⟩
    rcases Nat.lt_or_ge j m with h2 | h2
    · exact h j h2
    · unfold longN at hm
      rw [ofV_out (.inr (by omega)), ofV_out (.inr (by omega))]; exact Int.le_refl _
theorem same_of {a b : List Int} {m : Nat} (hm : longN a b ≤ m) (h : ∀ j : Nat, j < m → ofV a ((j : Int) + 1) = ofV b ((j : Int) + 1)) : SameV a b := by
  intro d
  by_cases h1 : d < 1
  · rw [ofV_lo h1, ofV_lo h1]
  · obtain ⟨j, rfl⟩ : ∃ j : Nat, d = (j : Int) + 1 := ⟨(d - 1).toNat, by omega⟩
    rcases Nat.lt_or_ge j m with h2 | h2
    · exact h j h2
    · unfold longN at hm
      rw [ofV_out (.inr (by omega)), ofV_out (.inr (by omega))]

/-- One without the noughts at its end. -/
def trimL (l : List Int) : List Int := (l.reverse.dropWhile (fun x => decide (x = 0))).reverse
theorem trimL_snoc0 (l : List Int) : trimL (l ++ [0]) = trimL l := by simp [trimL]
theorem trimL_snoc {l : List Int} {x : Int} (h : x ≠ 0) : trimL (l ++ [x]) = l ++ [x] := by simp [trimL, h]
theorem trimL_nil : trimL [] = [] := rfl
theorem trimL_getD (l : List Int) (j : Nat) : (trimL l).getD j 0 = l.getD j 0 := by
  rcases List.eq_nil_or_concat l with rfl | ⟨m, x, h⟩
  · rfl
  · rw [List.concat_eq_append] at h
    subst h
    by_cases hx : x = 0
    · subst hx
      rw [trimL_snoc0, trimL_getD m j]
      simp only [List.getD_eq_getElem?_getD]
      rcases Nat.lt_or_ge j m.length with h | h
      · rw [List.getElem?_append_left h]
      · rw [List.getElem?_append_right h, List.getElem?_eq_none h]
        rcases Nat.eq_zero_or_pos (j - m.length) with h0 | h0
        · rw [h0]; rfl
        · rw [List.getElem?_eq_none (by simp; omega)]
    · rw [trimL_snoc hx]
termination_by l.length
decreasing_by simp_all
theorem ofV_trim (l : List Int) (d : Int) : ofV (trimL l) d = ofV l d := ofV_ext (trimL_getD l) d
theorem trimL_len (l : List Int) : (trimL l).length ≤ l.length := by
  unfold trimL
  rw [List.length_reverse]
  exact Nat.le_trans (List.dropWhile_sublist _).length_le (by simp)
theorem trimL_mem {l : List Int} {x : Int} (h : x ∈ trimL l) : x ∈ l := by
  unfold trimL at h
  have := (List.dropWhile_sublist (fun x : Int => decide (x = 0)) (l := l.reverse)).subset (List.mem_reverse.1 h)
  exact List.mem_reverse.1 this
/-- Another number of a device. -/
def setAt (l : List Int) (dev n : Int) (m : Nat) : List Int := (List.range m).map fun (k : Nat) => if (k : Int) + 1 = dev then n else ofV l ((k : Int) + 1)
def setL (l : List Int) (dev n : Int) : List Int := trimL (setAt l dev n (max l.length dev.toNat))
theorem setAt_next (l : List Int) (dev n : Int) (k : Nat) : setAt l dev n (k + 1) = setAt l dev n k ++ [if (k : Int) + 1 = dev then n else ofV l ((k : Int) + 1)] := by
  unfold setAt; rw [List.range_succ, List.map_append]; rfl
theorem setAt_len (l : List Int) (dev n : Int) (k : Nat) : (setAt l dev n k).length = k := by simp [setAt]
theorem ofV_setL (l : List Int) {dev : Int} (n : Int) (h1 : 1 ≤ dev) (d : Int) : ofV (setL l dev n) d = if d = dev then n else ofV l d := by
  unfold setL
  rw [ofV_trim]
  by_cases h : d < 1
  · rw [ofV_lo h, ofV_lo h, if_neg (by omega)]
  · obtain ⟨j, rfl⟩ : ∃ j : Nat, d = (j : Int) + 1 := ⟨(d - 1).toNat, by omega⟩
    rw [ofV_getD]
    rcases Nat.lt_or_ge j (max l.length dev.toNat) with h2 | h2
    · rw [List.getD_eq_getElem?_getD]
      unfold setAt
      rw [List.getElem?_map, List.getElem?_range h2]; rfl
    · rw [List.getD_eq_getElem?_getD, List.getElem?_eq_none (by rw [setAt_len]; exact h2), if_neg (by omega), ofV_out (.inr (by omega))]; rfl
theorem setL_len (l : List Int) (dev n : Int) : (setL l dev n).length ≤ max l.length dev.toNat := by
  have := trimL_len (setAt l dev n (max l.length dev.toNat))
  rw [setAt_len] at this
  exact this

def UptoPost (a b : List Int) (w : World) (e : Ending) (w' : World) : Prop := ∃ r, e = .returned (.bool r) ∧ (r = true ↔ UptoV a b) ∧ w = w'
def UptoPostB (a b : List Int) (w : World) (e : Ending) (w' : World) : Prop := ∃ r, e = .returned (.bool r) ∧ (r = true ↔ UptoV a b) ∧ Below w.heap.size w w'
def SamePost (a b : List Int) (w : World) (e : Ending) (w' : World) : Prop := ∃ r, e = .returned (.bool r) ∧ (r = true ↔ SameV a b) ∧ Below w.heap.size w w'

/-! ### Walks -/
structure TestI (g : Nat) (cb : Array Value) (p : Int → Bool) : Prop where
  eg : ∀ args w, (callFunc g args).run Tryz.prog w = .ok (.enter g args) w
  call : ∀ (x : Int) (W : World), Calls Tryz.prog g (#[.int .i64 x] ++ cb) W fun e w' => e = .returned (.bool (p x)) ∧ W = w'

def IdxPostI (w : World) (p : Int → Bool) (l : List Int) (e : Ending) (w' : World) : Prop :=
  ((e = .returned (.int .i64 (-1)) ∧ ∀ x ∈ l, p x = false) ∨ ∃ k : Nat, ∃ hk : k < l.length, e = .returned (.int .i64 k) ∧ p l[k] = true ∧ ∀ x ∈ l.take k, p x = false) ∧ w = w'

set_option maxRecDepth 100000 in
set_option maxHeartbeats 1000000 in
theorem indexI_any {g : Nat} {cb : Array Value} {p : Int → Bool} (v : Value) (l : List Int) (w : World) (C : TestI g cb p) (h : Rd w v l.length (l.map ic)) :
    Calls Tryz.prog 74 #[v, .func (.func g) #[] cb] w (IdxPostI w p l) := by
  obtain ⟨ao, c, rfl, hnc, hcm, _, _⟩ := id h
  obtain ⟨n, hln⟩ : ∃ n, l.length = n := ⟨_, rfl⟩
  have HA := Lib.hid h
  have HLN := Lib.hid hln
  have heg := C.eg
  have HC := Lib.hid C.call
  rw [hln] at hnc ⊢
  unfold maxLen at hcm
  clear h hln C
  go_enter Tryz.func74, Tryz.ntmps74
  go_wp2
  go_loop [8] (fun vi => ∃ k : Nat, k ≤ n ∧ vi = .int .i64 k ∧ Hid (∀ x ∈ l.take k, p x = false)) (fun vi => n - (intOf vi).toNat)
  case atStart => exact ⟨0, Nat.zero_le _, rfl, (fun x hx => by simp at hx)⟩
  case round =>
    obtain ⟨k, hk, rfl, hno⟩ := hrel
    by_cases hlt : k < n
    · have hkl : k < l.length := by have := HLN.out; omega
      obtain ⟨A, x1, c0, _⟩ := rd_one elVec ic HA.out rfl k hkl
      rw [HLN.out] at x1
      obtain ⟨x, hx⟩ : ∃ x, l[k] = x := ⟨_, rfl⟩
      rw [hx] at c0
      have hcall := HC.out x w
      have HX := Lib.hid hx
      clear hx
      cases hp : p x
      · have hno' : Hid (∀ x ∈ l.take (k + 1), p x = false) := by
          intro y hy
          rw [List.take_succ_eq_append_getElem hkl] at hy
          rcases List.mem_append.1 hy with hy | hy
          · exact hno.out y hy
          · rw [List.mem_singleton.1 hy, HX.out]; exact hp
        rw [hp] at hcall
        have HCL := Lib.hid hcall
        clear hcall hp
        go_wp2_with fail
        refine HCL.out.mono ?_
        rintro e w2 ⟨rfl, rfl⟩
        go_wp2_with fail
        go_round
        case rel => exact ⟨k + 1, by omega, by go_num, hno'⟩
        case measure => simp [intOf]; omega
      · have HP := Lib.hid hp
        rw [hp] at hcall
        have HCL := Lib.hid hcall
        clear hcall hp
        go_wp2_with fail
        refine HCL.out.mono ?_
        rintro e w2 ⟨rfl, rfl⟩
        go_wp2_with fail
        go_ret
        exact ⟨.inr ⟨k, hkl, rfl, by rw [HX.out]; exact HP.out, hno.out⟩, rfl⟩
    · have hkn : k = n := by omega
      subst hkn
      have he : ∀ x ∈ l, p x = false := by
        have := hno.out
        rwa [List.take_of_length_le (by have := HLN.out; omega)] at this
      have HE := Lib.hid he
      clear he
      go_wp2_with fail
      go_ret
      exact ⟨.inl ⟨rfl, HE.out⟩, rfl⟩

set_option maxRecDepth 100000 in
set_option maxHeartbeats 1000000 in
theorem containsI_any {g : Nat} {cb : Array Value} {p : Int → Bool} (v : Value) (l : List Int) (w : World) (C : TestI g cb p) (h : Rd w v l.length (l.map ic)) :
    Calls Tryz.prog 52 #[v, .func (.func g) #[] cb] w fun e w' => e = .returned (.bool (l.any p)) ∧ w = w' := by
  have HI := Lib.hid (indexI_any v l w C h)
  obtain ⟨ao, c, rfl, _⟩ := id h
  clear h C
  go_enter Tryz.func52, Tryz.ntmps52
  go_wp2_with fail
  refine HI.out.mono ?_
  rintro e w1 ⟨⟨rfl, hno⟩ | ⟨k, hk, rfl, hp, hno⟩, rfl⟩
  · have hf : l.any p = false := by rw [List.any_eq_false]; intro x hx; rw [hno x hx]; simp
    have HF := Lib.hid hf
    clear hf hno
    go_wp2_with fail
    go_ret
    exact ⟨ret_bool HF.out.symm, rfl⟩
  · have hf : l.any p = true := List.any_eq_true.2 ⟨_, List.getElem_mem hk, hp⟩
    have HF := Lib.hid hf
    have hge : decide ((0 : Int) ≤ (k : Int)) = true := decide_eq_true (by omega)
    clear hf hno hp hk
    go_wp2_with fail
    go_ret
    exact ⟨ret_bool HF.out.symm, rfl⟩

theorem bad_any (x : Int) (w : World) : Calls Tryz.prog 51 #[.int .i64 x] w fun e w' => e = .returned (.bool (badI x)) ∧ w = w' := by
  go_enter Tryz.func51, Tryz.ntmps51
  go_wp2
  all_goals (go_ret; refine ⟨ret_bool ?_, rfl⟩; simp_all [badI])
theorem bad_test : TestI 51 #[] badI :=
  ⟨enters_of Tryz.func51 (by kernel_rfl) rfl, fun x W => bad_any x W⟩

set_option maxRecDepth 100000 in
set_option maxHeartbeats 1000000 in
theorem vecRight_any (v : Value) (l : List Int) (w : World) (h : Rd w v l.length (l.map ic)) :
    Calls Tryz.prog 23 #[v] w fun e w' => e = .returned (.bool (rightVec l)) ∧ w = w' := by
  have HC := Lib.hid (containsI_any v l w bad_test h)
  obtain ⟨ao, c, rfl, hnc, hcm, _, _⟩ := id h
  unfold maxLen at hcm
  obtain ⟨n, hln⟩ : ∃ n, l.length = n := ⟨_, rfl⟩
  obtain ⟨b, hb⟩ : ∃ b, l.any badI = b := ⟨_, rfl⟩
  have hu : rightVec l = (decide (n ≤ 64) && !b) := by unfold rightVec; rw [hln, hb]
  have HU := Lib.hid hu
  rw [hln, hb] at HC
  rw [hln] at hnc ⊢
  clear h hln hb hu
  by_cases h64 : n ≤ 64
  · have h1 : decide (n ≤ 64) = true := decide_eq_true h64
    have h2 : decide ((n : Int) ≤ 64) = true := decide_eq_true (by omega)
    have H1 := Lib.hid h1
    go_enter Tryz.func23, Tryz.ntmps23
    go_wp2_with fail
    refine HC.out.mono ?_
    rintro e w1 ⟨rfl, rfl⟩
    go_wp2_with fail
    go_ret
    exact ⟨ret_bool (by rw [HU.out, H1.out]; simp), rfl⟩
  · have h1 : decide (n ≤ 64) = false := decide_eq_false h64
    have h2 : decide ((n : Int) ≤ 64) = false := decide_eq_false (by omega)
    have H1 := Lib.hid h1
    go_enter Tryz.func23, Tryz.ntmps23
    go_wp2_with fail
    go_ret
    exact ⟨ret_bool (by rw [HU.out, H1.out]; rfl), rfl⟩

set_option maxHeartbeats 400000 in
theorem long_any (va vb : Value) (a b : List Int) (w : World) (ha : Rd w va a.length (a.map ic)) (hb : Rd w vb b.length (b.map ic)) :
    Calls Tryz.prog 56 #[va, vb] w fun e w' => e = .returned (.int .i64 (longN a b : Int)) ∧ w = w' := by
  obtain ⟨ao, ca, rfl, hna, hca, _, _⟩ := id ha
  obtain ⟨bo, cb, rfl, hnb, hcb, _, _⟩ := id hb
  unfold maxLen at hca hcb
  obtain ⟨n, hn⟩ : ∃ n, a.length = n := ⟨_, rfl⟩
  obtain ⟨m, hm⟩ : ∃ m, b.length = m := ⟨_, rfl⟩
  have hl : longN a b = max n m := by unfold longN; rw [hn, hm]
  have HL := Lib.hid hl
  rw [hn] at hna ⊢
  rw [hm] at hnb ⊢
  clear ha hb hn hm hl
  by_cases h : m < n
  · have h1 : decide (m < n) = true := decide_eq_true h
    have h2 : decide ((m : Int) < (n : Int)) = true := decide_eq_true (by omega)
    go_enter Tryz.func56, Tryz.ntmps56
    go_wp2
    go_ret
    exact ⟨ret_int (by rw [HL.out]; omega), rfl⟩
  · have h1 : decide (m < n) = false := decide_eq_false h
    have h2 : decide ((m : Int) < (n : Int)) = false := decide_eq_false (by omega)
    go_enter Tryz.func56, Tryz.ntmps56
    go_wp2
    go_ret
    exact ⟨ret_int (by rw [HL.out]; omega), rfl⟩

set_option maxRecDepth 100000 in
set_option maxHeartbeats 1000000 in
theorem refUpto_any (va vb : Value) (a b : List Int) (w : World) (ha : Rd w va a.length (a.map ic)) (hb : Rd w vb b.length (b.map ic)) (hla : a.length ≤ 1000000000000000) (hlb : b.length ≤ 1000000000000000) :
    Calls Tryz.prog 29 #[va, vb] w (UptoPost a b w) := by
  have HL := Lib.hid (long_any va vb a b w ha hb)
  have HA := Lib.hid ha
  have HB := Lib.hid hb
  obtain ⟨ao, ca, rfl, hna, hca, _, _⟩ := id ha
  obtain ⟨bo, cb, rfl, hnb, hcb, _, _⟩ := id hb
  unfold maxLen at hca hcb
  have hm' : longN a b ≤ 1000000000000000 := by unfold longN; omega
  obtain ⟨m, hm⟩ : ∃ m, longN a b = m := ⟨_, rfl⟩
  rw [hm] at HL hm'
  have HM := Lib.hid hm
  clear ha hb hm hna hnb hca hcb hla hlb
  go_enter Tryz.func29, Tryz.ntmps29
  go_wp2_with fail
  go_loop [5] (fun vi => ∃ k : Nat, k ≤ m ∧ vi = .int .i64 ((k : Int) + 1) ∧ Hid (∀ j : Nat, j < k → ofV a ((j : Int) + 1) ≤ ofV b ((j : Int) + 1))) (fun vi => m + 1 - (intOf vi).toNat)
  case atStart => exact ⟨0, Nat.zero_le _, rfl, fun j hj => absurd hj (by omega)⟩
  case round =>
    obtain ⟨k, hk, rfl, hall⟩ := hrel
    go_wp2_with fail
    refine HL.out.mono ?_
    rintro e w1 ⟨rfl, rfl⟩
    by_cases hlt : k < m
    · have h1 : decide (k < m) = true := decide_eq_true hlt
      have h2 : decide ((k : Int) + 1 ≤ (m : Int)) = true := decide_eq_true (by omega)
      have h3 : decide ((k : Int) < (m : Int)) = true := decide_eq_true (by omega)
      have h5 : (k : Int) + 1 ≤ (m : Int) := by omega
      have hx := refOfV_any _ a ((k : Int) + 1) w HA.out
      have hy := refOfV_any _ b ((k : Int) + 1) w HB.out
      obtain ⟨x, hxe⟩ : ∃ x, ofV a ((k : Int) + 1) = x := ⟨_, rfl⟩
      obtain ⟨y, hye⟩ : ∃ y, ofV b ((k : Int) + 1) = y := ⟨_, rfl⟩
      rw [hxe] at hx
      rw [hye] at hy
      have HX := Lib.hid hx
      have HY := Lib.hid hy
      have HXE := Lib.hid hxe
      have HYE := Lib.hid hye
      clear hx hy hxe hye
      go_wp2_with fail
      refine HX.out.mono ?_
      rintro e w1 ⟨rfl, rfl⟩
      go_wp2_with fail
      refine HY.out.mono ?_
      rintro e w1 ⟨rfl, rfl⟩
      by_cases hxy : y < x
      · have h4 : decide (y < x) = true := decide_eq_true hxy
        go_wp2_with fail
        go_ret
        refine ⟨false, rfl, ⟨(fun h => by cases h), fun h => ?_⟩, rfl⟩
        have := h ((k : Int) + 1)
        rw [HXE.out, HYE.out] at this
        omega
      · have h4 : decide (y < x) = false := decide_eq_false hxy
        go_wp2_with fail
        go_round
        case rel =>
          refine ⟨k + 1, by omega, by go_num, fun j hj => ?_⟩
          rcases Nat.lt_or_ge j k with h | h
          · exact hall.out j h
          · obtain rfl : j = k := by omega
            rw [HXE.out, HYE.out]; omega
        case measure => simp [intOf]; omega
    · have hkm : k = m := by omega
      subst hkm
      have h1 : decide ((k : Int) + 1 ≤ (k : Int)) = false := decide_eq_false (by omega)
      have h5 : ¬ (k : Int) + 1 ≤ (k : Int) := by omega
      go_wp2_with fail
      go_ret
      exact ⟨true, rfl, ⟨fun _ => upto_of (by rw [HM.out]; exact Nat.le_refl _) hall.out, fun _ => rfl⟩, rfl⟩

def VecPost (w : World) (l : List Int) (e : Ending) (w' : World) : Prop := ∃ v, e = .returned v ∧ Rd w' v l.length (l.map ic) ∧ Below w.heap.size w w'

set_option maxRecDepth 100000 in
set_option maxHeartbeats 1000000 in
theorem refTrim_any : ∀ (n : Nat) (v : Value) (l : List Int) (w : World), l.length = n → Rd w v l.length (l.map ic) →
    Calls Tryz.prog 75 #[v] w fun e w' => ∃ v', e = .returned v' ∧ Rd w v' (trimL l).length ((trimL l).map ic) ∧ w = w' := by
  intro n
  induction n with
  | zero =>
    intro v l w hl h
    have : l = [] := List.eq_nil_of_length_eq_zero hl
    subst this
    have HA := Lib.hid h
    obtain ⟨ao, c, rfl, _⟩ := id h
    clear h hl
    go_enter Tryz.func75, Tryz.ntmps75
    go_wp2_with fail
    go_ret
    exact ⟨_, rfl, HA.out, rfl⟩
  | succ n ih =>
    intro v l w hl h
    have HIH := Lib.hid ih
    clear ih
    obtain ⟨ao, c, rfl, hnc, hcm, _, _⟩ := id h
    unfold maxLen at hcm
    rcases List.eq_nil_or_concat l with hn | ⟨m, x, hm⟩
    · subst hn; cases hl
    · rw [List.concat_eq_append] at hm
      subst hm
      have hml : m.length = n := by simpa using hl
      obtain ⟨A, x1, c0, _⟩ := rd_one elVec ic h rfl n (by omega)
      have hg : (m ++ [x])[n]'(by omega) = x := by simp [← hml]
      rw [hg] at c0
      obtain ⟨a', c', hs, hr⟩ := run_part_hi elVec h (by simp) n (by omega)
      have htk : ((m ++ [x]).map ic).take (n * 1) = m.map ic := by simp [← hml]
      rw [htk] at hr
      rw [hl] at x1 hs hnc ⊢
      have HA : Hid (Rd w (.slice ao (n + 1) c) (m ++ [x]).length ((m ++ [x]).map ic)) := by rw [hl] at h ⊢; exact h
      have hml' := hml
      have HM := Lib.hid hml
      have HR : Hid (Rd w (.slice a' n c') m.length (m.map ic)) := by rw [hml]; exact hr
      have e1 : ((n + 1 : Nat) : Int) - 1 = (n : Int) := by omega
      have e1' : (n : Int) + 1 - 1 = (n : Int) := by omega
      have e2 : (0 : Int) < (n : Int) + 1 := by omega
      have e3 : (0 : Int) ≤ (n : Int) := by omega
      clear h hl hr htk hg hml hml'
      by_cases hx : x = 0
      · subst hx
        have hcall := HIH.out (.slice a' n c') m w HM.out HR.out
        have HC := Lib.hid hcall
        have HT := Lib.hid (trimL_snoc0 m)
        clear hcall
        go_enter Tryz.func75, Tryz.ntmps75
        go_wp2_with fail
        refine HC.out.mono ?_
        rintro e w1 ⟨v', rfl, hv', rfl⟩
        have HV := Lib.hid hv'
        clear hv'
        go_wp2_with fail
        go_ret
        exact ⟨_, rfl, by rw [HT.out]; exact HV.out, rfl⟩
      · have hx0 : (x == 0) = false := by simpa using hx
        have HT := Lib.hid (trimL_snoc (l := m) hx)
        clear hx
        go_enter Tryz.func75, Tryz.ntmps75
        go_wp2_with fail
        go_ret
        exact ⟨_, rfl, by rw [HT.out]; exact HA.out, rfl⟩

end Go.Proofs.YtnolbabpkhdpmaaGreat
