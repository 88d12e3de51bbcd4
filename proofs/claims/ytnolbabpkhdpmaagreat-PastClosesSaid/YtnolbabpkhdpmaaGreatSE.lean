/-
  The stable sort of numbers in place: the merge in place.
-/
import Derived.Test.YtnolbabpkhdpmaaGreatSD
namespace Go.Proofs.YtnolbabpkhdpmaaGreat
open Go.RowKit Go.Sort Go.BigFrame

/-- The merge in place does its work on parts of at most N in all. -/
def SymOk (N : Nat) (g : Nat) (cb : Array Value) (cf : Int → Int → Int) (Q : Int → Prop) (w0 : World) (blk off n : Nat) : Prop :=
  ∀ (W : World) (P U V S : List Int), SB en1 1 w0 blk off (P ++ U ++ V ++ S) W → (P ++ U ++ V ++ S).length = n → (∀ x ∈ P ++ U ++ V ++ S, Q x) → Asc (ltC cf) U → Asc (ltC cf) V → 0 < U.length → 0 < V.length → U.length + V.length ≤ N →
    ∀ a m b cap : Nat, a = P.length → m = a + U.length → b = m + V.length →
    Calls Tryz.prog 106 #[.slice (some ⟨blk, off, none⟩) n cap, .int .i64 a, .int .i64 m, .int .i64 b, .func (.func g) #[] cb] W fun e W' => e = .returned (.tuple #[]) ∧ SB en1 1 w0 blk off (P ++ isortL (ltC cf) (U ++ V) ++ S) W'

theorem symTail {w0 : World} {blk off n : Nat} {l0 : List Int} {g : Nat} {cb : Array Value} {cf : Int → Int → Int} {Q : Int → Prop} (C : CmpOk g cb cf Q w0 blk off n l0) {N : Nat} (IH : SymOk N g cb cf Q w0 blk off n) (hsm : n ≤ 1000000) (W : World) (P U V S : List Int)
    (hW : SB en1 1 w0 blk off (P ++ U ++ V ++ S) W) (hlen : (P ++ U ++ V ++ S).length = n) (hQ : ∀ x ∈ P ++ U ++ V ++ S, Q x) (hU : Asc (ltC cf) U) (hV : Asc (ltC cf) V) (a m b mid s cap : Nat) (ha : a = P.length) (hm : m = a + U.length) (hb : b = m + V.length)
    (hm3 : 2 * mid ≤ a + b) (hm4 : a + b ≤ 2 * mid + 1) (hN : b ≤ N + a + 1 ∧ a + 4 ≤ b) (h1 : a + s ≤ mid) (h2 : a + s ≤ m) (h3 : mid + m ≤ b + (a + s))
    (hlo : ∀ x y, 0 < s → U[s - 1]? = some x → V[mid - a - s]? = some y → ltC cf y x = false) (hhi : ∀ x y, s < mid - a → U[s]? = some x → V[mid - a - s - 1]? = some y → ltC cf y x = true) :
    ∃ L1 L2 L3 : List Int,
      (a + s < m → a + s < mid → Calls Tryz.prog 110 #[.slice (some ⟨blk, off, none⟩) n cap, .int .i64 ((a : Int) + s), .int .i64 m, .int .i64 ((mid : Int) + m - ((a : Int) + s)), .func (.func g) #[] cb] W fun e W' => e = .returned (.tuple #[]) ∧ SB en1 1 w0 blk off L1 W') ∧
      (¬ (a + s < m ∧ a + s < mid) → SB en1 1 w0 blk off L1 W) ∧
      (∀ w, SB en1 1 w0 blk off L1 w → 0 < s → a + s < mid → Calls Tryz.prog 106 #[.slice (some ⟨blk, off, none⟩) n cap, .int .i64 a, .int .i64 ((a : Int) + s), .int .i64 mid, .func (.func g) #[] cb] w fun e W' => e = .returned (.tuple #[]) ∧ SB en1 1 w0 blk off L2 W') ∧
      (∀ w, SB en1 1 w0 blk off L1 w → ¬ (0 < s ∧ a + s < mid) → SB en1 1 w0 blk off L2 w) ∧
      (∀ w, SB en1 1 w0 blk off L2 w → a + s < m → mid + m < b + (a + s) → Calls Tryz.prog 106 #[.slice (some ⟨blk, off, none⟩) n cap, .int .i64 mid, .int .i64 ((mid : Int) + m - ((a : Int) + s)), .int .i64 b, .func (.func g) #[] cb] w fun e W' => e = .returned (.tuple #[]) ∧ SB en1 1 w0 blk off L3 W') ∧
      (∀ w, SB en1 1 w0 blk off L2 w → ¬ (a + s < m ∧ mid + m < b + (a + s)) → SB en1 1 w0 blk off L3 w) ∧
      (∀ w, SB en1 1 w0 blk off L3 w → SB en1 1 w0 blk off (P ++ isortL (ltC cf) (U ++ V) ++ S) w) := by
  have hswo := C.swo
  obtain ⟨u, hu⟩ : ∃ u, mid - a = u := ⟨_, rfl⟩
  rw [hu] at hlo hhi
  have hres := merge_halves (s := s) (u := u) hswo hU hV (by omega) (by omega) (by omega) hlo hhi
  have eU : U = U.take s ++ U.drop s := (List.take_append_drop _ _).symm
  have eV : V = V.take (u - s) ++ V.drop (u - s) := (List.take_append_drop _ _).symm
  have l1 : (U.take s).length = s := by rw [List.length_take]; omega
  have l2 : (U.drop s).length = m - a - s := by rw [List.length_drop]; omega
  have l3 : (V.take (u - s)).length = u - s := by rw [List.length_take]; omega
  have l4 : (V.drop (u - s)).length = b - m - (u - s) := by rw [List.length_drop]; omega
  obtain ⟨U1, hU1⟩ : ∃ x, U.take s = x := ⟨_, rfl⟩
  obtain ⟨U2, hU2⟩ : ∃ x, U.drop s = x := ⟨_, rfl⟩
  obtain ⟨V1, hV1⟩ : ∃ x, V.take (u - s) = x := ⟨_, rfl⟩
  obtain ⟨V2, hV2⟩ : ∃ x, V.drop (u - s) = x := ⟨_, rfl⟩
  rw [hU1] at eU l1 hres
  rw [hU2] at eU l2 hres
  rw [hV1] at eV l3 hres
  rw [hV2] at eV l4 hres
  clear hU1 hU2 hV1 hV2 hlo hhi
  rw [hres]
  subst eU eV
  obtain ⟨au1, au2, _⟩ := Asc.app.1 hU
  obtain ⟨av1, av2, _⟩ := Asc.app.1 hV
  have hl := hlen
  simp only [List.length_append] at hl
  have hQ1 : ∀ x ∈ P ++ U1 ++ V1 ++ (U2 ++ V2 ++ S), Q x := fun x hx => hQ x (by simp only [List.mem_append] at hx ⊢; rcases hx with ((h | h) | h) | (h | h) | h <;> simp [h])
  have p1 := isortL_perm (lt := ltC cf) (U1 ++ V1)
  have pl := isortL_length (lt := ltC cf) (U1 ++ V1)
  rw [List.length_append] at pl
  have hQ2 : ∀ x ∈ P ++ isortL (ltC cf) (U1 ++ V1) ++ U2 ++ V2 ++ S, Q x := fun x hx => hQ1 x (by
    simp only [List.mem_append, p1.mem_iff] at hx ⊢; rcases hx with (((h | h | h) | h) | h) | h <;> simp [h])
  have s1 : ∀ w, SB en1 1 w0 blk off (P ++ (U1 ++ U2) ++ (V1 ++ V2) ++ S) w → SB en1 1 w0 blk off ((P ++ U1) ++ U2 ++ V1 ++ (V2 ++ S)) w := fun w h => by simpa using h
  have g1 : ((a + s : Nat) : Int) = (a : Int) + s := by omega
  have g2 : ((mid + m - (a + s) : Nat) : Int) = (mid : Int) + m - ((a : Int) + s) := by omega
  refine ⟨P ++ U1 ++ V1 ++ (U2 ++ V2 ++ S), P ++ isortL (ltC cf) (U1 ++ V1) ++ U2 ++ V2 ++ S, (P ++ isortL (ltC cf) (U1 ++ V1)) ++ isortL (ltC cf) (U2 ++ V2) ++ S, ?_, ?_, ?_, ?_, ?_, ?_, ?_⟩
  · intro c1 c2
    have := rotate_any C.row hsm W (P ++ U1) U2 V1 (V2 ++ S) (s1 _ hW) (by rw [← hlen]; simp only [List.length_append]; omega) (a + s) m (mid + m - (a + s)) cap (by rw [List.length_append]; omega) (by rw [List.length_append]; omega) (by rw [List.length_append]; omega) (by omega) (by omega) (.func (.func g) #[] cb)
    rw [g1, g2] at this
    refine this.mono fun e w' h => ⟨h.1, ?_⟩
    have := h.2
    simp only [List.append_assoc] at this ⊢
    exact this
  · intro c1
    have : U2 ++ V1 = V1 ++ U2 := by
      by_cases c2 : a + s < m
      · have : V1 = [] := List.eq_nil_of_length_eq_zero (by omega)
        subst this; simp
      · have : U2 = [] := List.eq_nil_of_length_eq_zero (by omega)
        subst this; simp
    have h := s1 _ hW
    have e : (P ++ U1) ++ U2 ++ V1 ++ (V2 ++ S) = (P ++ U1) ++ (V1 ++ U2) ++ (V2 ++ S) := by rw [← this]; simp only [List.append_assoc]
    rw [e] at h
    simp only [List.append_assoc] at h ⊢
    exact h
  · intro w h c1 c2
    have := IH w P U1 V1 (U2 ++ V2 ++ S) h (by rw [← hlen]; simp only [List.length_append]; omega) hQ1 au1 av1 (by omega) (by omega) (by omega) a (a + s) mid cap ha (by omega) (by omega)
    rw [g1] at this
    refine this.mono fun e w' h => ⟨h.1, ?_⟩
    have := h.2
    simp only [List.append_assoc] at this ⊢
    exact this
  · intro w h c1
    have : isortL (ltC cf) (U1 ++ V1) = U1 ++ V1 := by
      apply isortL_of_asc
      by_cases c2 : 0 < s
      · have : V1 = [] := List.eq_nil_of_length_eq_zero (by omega)
        subst this; simpa using au1
      · have : U1 = [] := List.eq_nil_of_length_eq_zero (by omega)
        subst this; simpa using av1
    rw [this]
    simp only [List.append_assoc] at h ⊢
    exact h
  · intro w h c1 c2
    have := IH w (P ++ isortL (ltC cf) (U1 ++ V1)) U2 V2 S h (by rw [← hlen]; simp only [List.length_append]; omega) hQ2 au2 av2 (by omega) (by omega) (by omega) mid (mid + m - (a + s)) b cap (by rw [List.length_append]; omega) (by omega) (by omega)
    rw [g2] at this
    exact this
  · intro w h c1
    have : isortL (ltC cf) (U2 ++ V2) = U2 ++ V2 := by
      apply isortL_of_asc
      by_cases c2 : a + s < m
      · have : V2 = [] := List.eq_nil_of_length_eq_zero (by omega)
        subst this; simpa using au2
      · have : U2 = [] := List.eq_nil_of_length_eq_zero (by omega)
        subst this; simpa using av2
    rw [this]
    simp only [List.append_assoc] at h ⊢
    exact h
  · intro w h
    simp only [List.append_assoc] at h ⊢
    exact h

set_option maxRecDepth 100000 in
set_option maxHeartbeats 2000000 in
theorem symMerge_gen {w0 : World} {blk off n : Nat} {l0 : List Int} {g : Nat} {cb : Array Value} {cf : Int → Int → Int} {Q : Int → Prop} (C : CmpOk g cb cf Q w0 blk off n l0) (N : Nat) (IH : SymOk N g cb cf Q w0 blk off n) (W : World) (P U V S : List Int)
    (hW : SB en1 1 w0 blk off (P ++ U ++ V ++ S) W) (hlen : (P ++ U ++ V ++ S).length = n) (hQ : ∀ x ∈ P ++ U ++ V ++ S, Q x) (hU : Asc (ltC cf) U) (hV : Asc (ltC cf) V) (a m b cap : Nat) (ha : a = P.length) (hm : m = a + U.length) (hb : b = m + V.length) (hU2 : 2 ≤ U.length) (hV2 : 2 ≤ V.length)
    (hN : U.length + V.length ≤ N + 1) :
    Calls Tryz.prog 106 #[.slice (some ⟨blk, off, none⟩) n cap, .int .i64 a, .int .i64 m, .int .i64 b, .func (.func g) #[] cb] W fun e W' => e = .returned (.tuple #[]) ∧ SB en1 1 w0 blk off (P ++ isortL (ltC cf) (U ++ V) ++ S) W' := by
  have hsm := C.small
  have R := Lib.hid C.row
  have heg := C.eg
  have HC := Lib.hid C
  have hl := hlen
  simp only [List.length_append] at hl
  have hbn : b ≤ n := by omega
  have ham : a + 2 ≤ m := by omega
  have hmb : m + 2 ≤ b := by omega
  obtain ⟨mid, hmid⟩ : ∃ mid, mid = (a + b) / 2 := ⟨_, rfl⟩
  have hmd : ((a : Int) + (b : Int)) / 2 = (mid : Int) := by omega
  have hm1 : a + 2 ≤ mid := by omega
  have hm2 : mid + 2 ≤ b := by omega
  have HMID := Lib.hid hmid
  have hm3 : 2 * mid ≤ a + b := by omega
  have hm4 : a + b ≤ 2 * mid + 1 := by omega
  have HUL := Lib.hid (show U.length = m - a by omega)
  have HVL := Lib.hid (show V.length = b - m by omega)
  have HL := Lib.hid hlen
  have HA := Lib.hid ha
  have HQ := Lib.hid hQ
  have HW := Lib.hid hW
  have HU := Lib.hid hU
  have HV := Lib.hid hV
  have HN := Lib.hid hN
  have HI := Lib.hid IH
  have hE0 : (((m : Int) - (a : Int)) == 1) = false := by simp; omega
  have hE : (((b : Int) - (m : Int)) == 1) = false := by simp; omega
  clear hl hlen hQ ha hm hW C hU hV hU2 hV2 hN IH hmid hb
  obtain ⟨F, hF⟩ : ∃ F, P ++ isortL (ltC cf) (U ++ V) ++ S = F := ⟨_, rfl⟩
  rw [hF]
  have HF := Lib.hid hF
  clear hF
  go_enter Tryz.func106, Tryz.ntmps106
  by_cases hgt : mid < m
  all_goals
    go_wp2
    go_loopw [20, 21] (fun vi vj wr => ∃ s t : Nat, s ≤ t ∧ a + t ≤ mid ∧ a + t ≤ m ∧ mid + m ≤ b + (a + s) ∧ vi = .int .i64 ((a : Int) + s) ∧ vj = .int .i64 ((a : Int) + t) ∧
      Hid ((∀ x y, 0 < s → U[s - 1]? = some x → V[mid - a - s]? = some y → ltC cf y x = false) ∧ (∀ x y, t < mid - a → U[t]? = some x → V[mid - a - t - 1]? = some y → ltC cf y x = true)) ∧ Hid (SB en1 1 w0 blk off (P ++ U ++ V ++ S) wr)) (fun vi vj _ => (intOf vj).toNat - (intOf vi).toNat)
    case atStart =>
      first
        | (refine ⟨mid + m - b - a, mid - a, by omega, by omega, by omega, by omega, by go_num, by go_num, ⟨fun x y _ _ h => ?_, fun x y h => by omega⟩, HW.out⟩
           rw [List.getElem?_eq_none (by have := HVL.out; omega)] at h
           cases h)
        | (refine ⟨0, m - a, by omega, by omega, by omega, by omega, by go_num, by go_num, ⟨fun x y h => by omega, fun x y _ h _ => ?_⟩, HW.out⟩
           rw [List.getElem?_eq_none (by have := HUL.out; omega)] at h
           cases h)
    case round =>
      obtain ⟨s, t, hst, htm, htM, hsb', rfl, rfl, HI2, hsb⟩ := hrel
      rename World => wr
      by_cases hlt : s < t
      · obtain ⟨c, hcd⟩ : ∃ c, c = (s + t) / 2 := ⟨_, rfl⟩
        have hc1' : s ≤ c := by omega
        have hc2 : c < t := by omega
        have hhd : ((a : Int) + s + ((a : Int) + t)) / 2 = (a : Int) + c := by omega
        clear hcd
        have hcl : c < U.length := by have := HUL.out; omega
        have hvl : mid - a - c - 1 < V.length := by have := HVL.out; omega
        obtain ⟨x, hx⟩ : ∃ x, U[c]? = some x := ⟨_, List.getElem?_eq_getElem hcl⟩
        obtain ⟨y, hy⟩ : ∃ y, V[mid - a - c - 1]? = some y := ⟨_, List.getElem?_eq_getElem hvl⟩
        obtain ⟨v, hv⟩ : ∃ v, m + (mid - a - c - 1) = v := ⟨_, rfl⟩
        obtain ⟨A, B, hAB, hA⟩ := get_app2 (P := P) (R := V ++ S) hx
        obtain ⟨A', B', hAB', hA'⟩ := get_app2 (P := P ++ U) (R := S) hy
        have e0' : P ++ U ++ V ++ S = P ++ U ++ (V ++ S) := by simp
        have hsb1 := hsb.out
        rw [e0', hAB] at hsb1
        have hln1 := HL.out
        rw [e0', hAB] at hln1
        obtain ⟨cx, _⟩ := hsb1.cell1 R.out hln1 (i := a + c) (by rw [hA, HA.out]) rfl
        have hsb2 := hsb.out
        rw [hAB'] at hsb2
        have hln2 := HL.out
        rw [hAB'] at hln2
        obtain ⟨cy, _⟩ := hsb2.cell1 R.out hln2 (i := v) (by rw [hA', List.length_append]; have := HA.out; have := HUL.out; omega) rfl
        have hqx : Q x := HQ.out x (by have := List.mem_of_getElem? hx; simp [this])
        have hqy : Q y := HQ.out y (by have := List.mem_of_getElem? hy; simp [this])
        have hcs : ∀ d os, Calls Tryz.prog g (#[.int .i64 y, .int .i64 x] ++ cb) (grow (redrawn wr d) os) fun e w'' => e = .returned (.int .i64 (cf y x)) ∧ ∃ p : Regrown, w'' = grow (redrawn wr p.d) p.os := fun d os => Calls.regrown_of (HC.out.cmp _ _ hln1 (hsb1.later (below_regrown wr d os)) y x hqy hqx)
        have p0 : (0 : Int) ≤ (a : Int) + c := by omega
        have p1 : (a : Int) + c < (n : Int) := by omega
        have e0 : ((a : Int) + c).toNat = a + c := by omega
        have p3 : (v : Int) < (n : Int) := by omega
        have hvv : (mid : Int) + (m : Int) - 1 - ((a : Int) + c) = (v : Int) := by omega
        have HX := Lib.hid hx
        have HY := Lib.hid hy
        clear hAB hA hAB' hA' hsb1 hln1 hsb2 hln2 hqx hqy hx hy e0' hv
        by_cases hlv : cf y x < 0
        · go_wp2_with fail
          have kcx := cell_regrown cx
          have kcy := cell_regrown cy
          refine wp_region_quiet_below (by kernel_rfl) (by kernel_rfl) ?_
          repeat (go_big_quiet_step (first | exact hcs _ _))
          refine wpQuiet_nil ?_
          intro _ hw'
          obtain ⟨⟨dq, osq⟩, hw''⟩ := hw'
          subst hw''
          clear kcx kcy hcs
          have hb3 := below_regrown wr dq osq
          generalize grow (redrawn wr dq) osq = w3 at *
          replace cx := cell_later hb3 cx
          replace cy := cell_later hb3 cy
          have hsb4 := Lib.hid (hsb.out.later hb3)
          clear cx cy
          go_wp2_with fail
          go_roundw
          case rel =>
            refine ⟨s, c, by omega, by omega, by omega, by omega, rfl, rfl, ⟨HI2.out.1, fun x' y' _ h h' => ?_⟩, hsb4⟩
            rw [HX.out] at h
            rw [HY.out] at h'
            cases h
            cases h'
            exact decide_eq_true hlv
          case measure => simp [intOf]; omega
        · have hdn : (!decide (cf y x < 0)) = true := by simp; omega
          go_wp2_with fail
          have kcx := cell_regrown cx
          have kcy := cell_regrown cy
          refine wp_region_quiet_below (by kernel_rfl) (by kernel_rfl) ?_
          repeat (go_big_quiet_step (first | exact hcs _ _))
          refine wpQuiet_nil ?_
          intro _ hw'
          obtain ⟨⟨dq, osq⟩, hw''⟩ := hw'
          subst hw''
          clear kcx kcy hcs
          have hb3 := below_regrown wr dq osq
          generalize grow (redrawn wr dq) osq = w3 at *
          replace cx := cell_later hb3 cx
          replace cy := cell_later hb3 cy
          have hsb4 := Lib.hid (hsb.out.later hb3)
          clear cx cy
          go_wp2_with fail
          go_roundw
          case rel =>
            refine ⟨c + 1, t, by omega, by omega, by omega, by omega, by go_num, rfl, ⟨fun x' y' _ h h' => ?_, HI2.out.2⟩, hsb4⟩
            rw [Nat.add_sub_cancel, HX.out] at h
            rw [Nat.sub_add_eq, HY.out] at h'
            cases h
            cases h'
            exact decide_eq_false (by omega)
          case measure => simp [intOf]; omega
      · have hst' : s = t := by omega
        subst hst'
        have hpl := symTail HC.out HI.out hsm wr P U V S hsb.out HL.out HQ.out HU.out HV.out a m b mid s cap HA.out (by have := HUL.out; omega) (by have := HVL.out; omega) hm3 hm4 (by have := HN.out; have := HUL.out; have := HVL.out; omega) htm htM hsb' HI2.out.1 HI2.out.2
        obtain ⟨L1, L2, L3, hrot, hnr, hlf, hnl, hrt, hnt, hfin⟩ := hpl
        have HROT := Lib.hid hrot
        have HNR := Lib.hid hnr
        have HLF := Lib.hid hlf
        have HNL := Lib.hid hnl
        have HRT := Lib.hid hrt
        have HNT := Lib.hid hnt
        have HFIN := Lib.hid hfin
        clear hrot hnr hlf hnl hrt hnt hfin hsb HI2
        by_cases hA : a + s < m
        · by_cases hB : a + s < mid
          · by_cases hC : 0 < s
            · by_cases hD : mid + m < b + (a + s)
              · first
                  | (exfalso; omega)
                  | (go_wp2_with fail
                     refine (HROT.out hA hB).mono ?_
                     rintro e w1 ⟨rfl, h1⟩
                     have HS1 := Lib.hid h1
                     clear h1
                     go_wp2_with fail
                     refine (HLF.out _ HS1.out hC hB).mono ?_
                     rintro e w2 ⟨rfl, h2⟩
                     have HS2 := Lib.hid h2
                     clear h2
                     go_wp2_with fail
                     refine (HRT.out _ HS2.out hA hD).mono ?_
                     rintro e w3 ⟨rfl, h3⟩
                     have HS3 := Lib.hid h3
                     clear h3
                     go_wp2_with fail
                     all_goals go_end0
                     all_goals exact ⟨rfl, by rw [← HF.out]; exact HFIN.out _ HS3.out⟩)
              · first
                  | (exfalso; omega)
                  | (go_wp2_with fail
                     refine (HROT.out hA hB).mono ?_
                     rintro e w1 ⟨rfl, h1⟩
                     have HS1 := Lib.hid h1
                     clear h1
                     go_wp2_with fail
                     refine (HLF.out _ HS1.out hC hB).mono ?_
                     rintro e w2 ⟨rfl, h2⟩
                     have HS2 := Lib.hid h2
                     clear h2
                     have HS3 := Lib.hid (HNT.out _ HS2.out (by omega))
                     go_wp2_with fail
                     all_goals go_end0
                     all_goals exact ⟨rfl, by rw [← HF.out]; exact HFIN.out _ HS3.out⟩)
            · by_cases hD : mid + m < b + (a + s)
              · first
                  | (exfalso; omega)
                  | (go_wp2_with fail
                     refine (HROT.out hA hB).mono ?_
                     rintro e w1 ⟨rfl, h1⟩
                     have HS1 := Lib.hid h1
                     clear h1
                     have HS2 := Lib.hid (HNL.out _ HS1.out (by omega))
                     go_wp2_with fail
                     refine (HRT.out _ HS2.out hA hD).mono ?_
                     rintro e w3 ⟨rfl, h3⟩
                     have HS3 := Lib.hid h3
                     clear h3
                     go_wp2_with fail
                     all_goals go_end0
                     all_goals exact ⟨rfl, by rw [← HF.out]; exact HFIN.out _ HS3.out⟩)
              · first
                  | (exfalso; omega)
                  | (go_wp2_with fail
                     refine (HROT.out hA hB).mono ?_
                     rintro e w1 ⟨rfl, h1⟩
                     have HS1 := Lib.hid h1
                     clear h1
                     have HS2 := Lib.hid (HNL.out _ HS1.out (by omega))
                     have HS3 := Lib.hid (HNT.out _ HS2.out (by omega))
                     go_wp2_with fail
                     all_goals go_end0
                     all_goals exact ⟨rfl, by rw [← HF.out]; exact HFIN.out _ HS3.out⟩)
          · by_cases hC : 0 < s
            · by_cases hD : mid + m < b + (a + s)
              · first
                  | (exfalso; omega)
                  | (have HS1 := Lib.hid (HNR.out (by omega))
                     have HS2 := Lib.hid (HNL.out _ HS1.out (by omega))
                     go_wp2_with fail
                     refine (HRT.out _ HS2.out hA hD).mono ?_
                     rintro e w3 ⟨rfl, h3⟩
                     have HS3 := Lib.hid h3
                     clear h3
                     go_wp2_with fail
                     all_goals go_end0
                     all_goals exact ⟨rfl, by rw [← HF.out]; exact HFIN.out _ HS3.out⟩)
              · first
                  | (exfalso; omega)
                  | (have HS1 := Lib.hid (HNR.out (by omega))
                     have HS2 := Lib.hid (HNL.out _ HS1.out (by omega))
                     have HS3 := Lib.hid (HNT.out _ HS2.out (by omega))
                     go_wp2_with fail
                     all_goals go_end0
                     all_goals exact ⟨rfl, by rw [← HF.out]; exact HFIN.out _ HS3.out⟩)
            · by_cases hD : mid + m < b + (a + s)
              · first
                  | (exfalso; omega)
                  | (have HS1 := Lib.hid (HNR.out (by omega))
                     have HS2 := Lib.hid (HNL.out _ HS1.out (by omega))
                     go_wp2_with fail
                     refine (HRT.out _ HS2.out hA hD).mono ?_
                     rintro e w3 ⟨rfl, h3⟩
                     have HS3 := Lib.hid h3
                     clear h3
                     go_wp2_with fail
                     all_goals go_end0
                     all_goals exact ⟨rfl, by rw [← HF.out]; exact HFIN.out _ HS3.out⟩)
              · first
                  | (exfalso; omega)
                  | (have HS1 := Lib.hid (HNR.out (by omega))
                     have HS2 := Lib.hid (HNL.out _ HS1.out (by omega))
                     have HS3 := Lib.hid (HNT.out _ HS2.out (by omega))
                     go_wp2_with fail
                     all_goals go_end0
                     all_goals exact ⟨rfl, by rw [← HF.out]; exact HFIN.out _ HS3.out⟩)
        · by_cases hB : a + s < mid
          · by_cases hC : 0 < s
            · by_cases hD : mid + m < b + (a + s)
              · first
                  | (exfalso; omega)
                  | (have HS1 := Lib.hid (HNR.out (by omega))
                     go_wp2_with fail
                     refine (HLF.out _ HS1.out hC hB).mono ?_
                     rintro e w2 ⟨rfl, h2⟩
                     have HS2 := Lib.hid h2
                     clear h2
                     have HS3 := Lib.hid (HNT.out _ HS2.out (by omega))
                     go_wp2_with fail
                     all_goals go_end0
                     all_goals exact ⟨rfl, by rw [← HF.out]; exact HFIN.out _ HS3.out⟩)
              · first
                  | (exfalso; omega)
                  | (have HS1 := Lib.hid (HNR.out (by omega))
                     go_wp2_with fail
                     refine (HLF.out _ HS1.out hC hB).mono ?_
                     rintro e w2 ⟨rfl, h2⟩
                     have HS2 := Lib.hid h2
                     clear h2
                     have HS3 := Lib.hid (HNT.out _ HS2.out (by omega))
                     go_wp2_with fail
                     all_goals go_end0
                     all_goals exact ⟨rfl, by rw [← HF.out]; exact HFIN.out _ HS3.out⟩)
            · by_cases hD : mid + m < b + (a + s)
              · first
                  | (exfalso; omega)
                  | (have HS1 := Lib.hid (HNR.out (by omega))
                     have HS2 := Lib.hid (HNL.out _ HS1.out (by omega))
                     have HS3 := Lib.hid (HNT.out _ HS2.out (by omega))
                     go_wp2_with fail
                     all_goals go_end0
                     all_goals exact ⟨rfl, by rw [← HF.out]; exact HFIN.out _ HS3.out⟩)
              · first
                  | (exfalso; omega)
                  | (have HS1 := Lib.hid (HNR.out (by omega))
                     have HS2 := Lib.hid (HNL.out _ HS1.out (by omega))
                     have HS3 := Lib.hid (HNT.out _ HS2.out (by omega))
                     go_wp2_with fail
                     all_goals go_end0
                     all_goals exact ⟨rfl, by rw [← HF.out]; exact HFIN.out _ HS3.out⟩)
          · by_cases hC : 0 < s
            · by_cases hD : mid + m < b + (a + s)
              · first
                  | (exfalso; omega)
                  | (have HS1 := Lib.hid (HNR.out (by omega))
                     have HS2 := Lib.hid (HNL.out _ HS1.out (by omega))
                     have HS3 := Lib.hid (HNT.out _ HS2.out (by omega))
                     go_wp2_with fail
                     all_goals go_end0
                     all_goals exact ⟨rfl, by rw [← HF.out]; exact HFIN.out _ HS3.out⟩)
              · first
                  | (exfalso; omega)
                  | (have HS1 := Lib.hid (HNR.out (by omega))
                     have HS2 := Lib.hid (HNL.out _ HS1.out (by omega))
                     have HS3 := Lib.hid (HNT.out _ HS2.out (by omega))
                     go_wp2_with fail
                     all_goals go_end0
                     all_goals exact ⟨rfl, by rw [← HF.out]; exact HFIN.out _ HS3.out⟩)
            · by_cases hD : mid + m < b + (a + s)
              · first
                  | (exfalso; omega)
                  | (have HS1 := Lib.hid (HNR.out (by omega))
                     have HS2 := Lib.hid (HNL.out _ HS1.out (by omega))
                     have HS3 := Lib.hid (HNT.out _ HS2.out (by omega))
                     go_wp2_with fail
                     all_goals go_end0
                     all_goals exact ⟨rfl, by rw [← HF.out]; exact HFIN.out _ HS3.out⟩)
              · first
                  | (exfalso; omega)
                  | (have HS1 := Lib.hid (HNR.out (by omega))
                     have HS2 := Lib.hid (HNL.out _ HS1.out (by omega))
                     have HS3 := Lib.hid (HNT.out _ HS2.out (by omega))
                     go_wp2_with fail
                     all_goals go_end0
                     all_goals exact ⟨rfl, by rw [← HF.out]; exact HFIN.out _ HS3.out⟩)

theorem symMerge_any {w0 : World} {blk off n : Nat} {l0 : List Int} {g : Nat} {cb : Array Value} {cf : Int → Int → Int} {Q : Int → Prop} (C : CmpOk g cb cf Q w0 blk off n l0) : ∀ N, SymOk N g cb cf Q w0 blk off n
  | 0 => fun _ _ _ _ _ _ _ _ _ _ h1 _ h2 => by omega
  | N + 1 => by
    have IH := symMerge_any C N
    intro W P U V S hW hlen hQ hU hV hU1 hV1 hN a m b cap ha hm hb
    by_cases h1 : U.length = 1
    · obtain ⟨x, rfl⟩ := List.length_eq_one_iff.1 h1
      exact symMerge_one C W P x V S hW hlen hQ hV a m b cap ha hm (by rw [hb, hm]; rfl)
    · by_cases h2 : V.length = 1
      · obtain ⟨y, rfl⟩ := List.length_eq_one_iff.1 h2
        exact symMerge_last C W P y U S hW hlen hQ hU a m b cap ha hm hb (by omega)
      · exact symMerge_gen C N IH W P U V S hW hlen hQ hU hV a m b cap ha hm hb (by omega) (by omega) hN
end Go.Proofs.YtnolbabpkhdpmaaGreat
