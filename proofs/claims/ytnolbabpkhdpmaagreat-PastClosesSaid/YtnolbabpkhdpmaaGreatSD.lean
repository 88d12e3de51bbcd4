/-
  The stable sort of numbers in place: a merge of what is in order with one.
-/
import Derived.Test.YtnolbabpkhdpmaaGreatSC
namespace Go.Proofs.YtnolbabpkhdpmaaGreat
open Go.RowKit Go.Sort Go.BigFrame

set_option maxRecDepth 100000 in
set_option maxHeartbeats 1000000 in
theorem symMerge_last {w0 : World} {blk off n : Nat} {l0 : List Int} {g : Nat} {cb : Array Value} {cf : Int → Int → Int} {Q : Int → Prop} (C : CmpOk g cb cf Q w0 blk off n l0) (W : World) (P : List Int) (y : Int) (U S : List Int)
    (hW : SB en1 1 w0 blk off (P ++ U ++ [y] ++ S) W) (hlen : (P ++ U ++ [y] ++ S).length = n) (hQ : ∀ x ∈ P ++ U ++ [y] ++ S, Q x) (hU : Asc (ltC cf) U) (a m b cap : Nat) (ha : a = P.length) (hm : m = a + U.length) (hb : b = m + 1) (hU2 : 2 ≤ U.length) :
    Calls Tryz.prog 106 #[.slice (some ⟨blk, off, none⟩) n cap, .int .i64 a, .int .i64 m, .int .i64 b, .func (.func g) #[] cb] W fun e W' => e = .returned (.tuple #[]) ∧ SB en1 1 w0 blk off (P ++ isortL (ltC cf) (U ++ [y]) ++ S) W' := by
  have hsm := C.small
  have R := Lib.hid C.row
  have heg := C.eg
  have HC := Lib.hid C
  subst hb
  have hl := hlen
  simp only [List.length_append, List.length_singleton] at hl
  have hbn : m + 1 ≤ n := by omega
  have ham : a + 2 ≤ m := by omega
  have HUL := Lib.hid (show U.length = m - a by omega)
  have HL := Lib.hid hlen
  have HA := Lib.hid ha
  have HQ := Lib.hid hQ
  have HW := Lib.hid hW
  have HU := Lib.hid hU
  rw [show ((m + 1 : Nat) : Int) = (m : Int) + 1 from by omega]
  have hE0 : (((m : Int) - (a : Int)) == 1) = false := by simp; omega
  have hE : (((m : Int) + 1 - (m : Int)) == 1) = true := by simp; omega
  have hE' : ((1 : Int) == 1) = true := rfl
  clear hl hlen hQ ha hm hW C hU hU2
  go_enter Tryz.func106, Tryz.ntmps106
  go_wp2
  go_loopw [14, 15] (fun vi vj wr => ∃ p q : Nat, p ≤ q ∧ a + q ≤ m ∧ vi = .int .i64 ((a : Int) + p) ∧ vj = .int .i64 ((a : Int) + q) ∧
      Hid ((∀ x, 0 < p → U[p - 1]? = some x → ltC cf y x = false) ∧ (∀ x, U[q]? = some x → ltC cf y x = true)) ∧ Hid (SB en1 1 w0 blk off (P ++ U ++ [y] ++ S) wr)) (fun vi vj _ => (intOf vj).toNat - (intOf vi).toNat)
  case atStart =>
    refine ⟨0, m - a, by omega, by omega, by go_num, by go_num, ⟨fun _ h => by omega, fun x h => ?_⟩, HW.out⟩
    rw [List.getElem?_eq_none (by have := HUL.out; omega)] at h
    cases h
  case round =>
    obtain ⟨p, q, hpq, hqb, rfl, rfl, HI, hsb⟩ := hrel
    rename World => wr
    by_cases hlt : p < q
    · obtain ⟨c, hcd⟩ : ∃ c, c = (p + q) / 2 := ⟨_, rfl⟩
      have hc1' : p ≤ c := by omega
      have hc2 : c < q := by omega
      have hhd : ((a : Int) + p + ((a : Int) + q)) / 2 = (a : Int) + c := by omega
      clear hcd
      have hcl : c < U.length := by have := HUL.out; omega
      obtain ⟨z, hz⟩ : ∃ z, U[c]? = some z := ⟨_, List.getElem?_eq_getElem hcl⟩
      obtain ⟨A, B, hAB, hA⟩ := get_app2 (P := P) (R := [y] ++ S) hz
      have e0' : P ++ U ++ [y] ++ S = P ++ U ++ ([y] ++ S) := by simp
      have hsb1 := hsb.out
      rw [e0', hAB] at hsb1
      have hln1 := HL.out
      rw [e0', hAB] at hln1
      obtain ⟨cz, _⟩ := hsb1.cell1 R.out hln1 (i := a + c) (by rw [hA, HA.out]) rfl
      have e1 : P ++ U ++ [y] ++ S = (P ++ U) ++ y :: S := by simp
      have hsb2 := hsb.out
      rw [e1] at hsb2
      have hln2 := HL.out
      rw [e1] at hln2
      obtain ⟨cx, _⟩ := hsb2.cell1 R.out hln2 (i := m) (by rw [List.length_append]; have := HA.out; have := HUL.out; omega) rfl
      have hqx : Q y := HQ.out y (by simp)
      have hqz : Q z := HQ.out z (by have := List.mem_of_getElem? hz; simp [this])
      have hcs : ∀ d os, Calls Tryz.prog g (#[.int .i64 y, .int .i64 z] ++ cb) (grow (redrawn wr d) os) fun e w'' => e = .returned (.int .i64 (cf y z)) ∧ ∃ p : Regrown, w'' = grow (redrawn wr p.d) p.os := fun d os => Calls.regrown_of (HC.out.cmp _ _ hln1 (hsb1.later (below_regrown wr d os)) y z hqx hqz)
      have p0 : (0 : Int) ≤ (a : Int) + c := by omega
      have p1 : (a : Int) + c < (n : Int) := by omega
      have p2 : (m : Int) < (n : Int) := by omega
      have e0 : ((a : Int) + c).toNat = a + c := by omega
      have HZ := Lib.hid hz
      clear hAB hA hsb1 hln1 e1 hsb2 hln2 hqx hqz hz e0'
      by_cases hlv : cf y z < 0
      · go_wp2_with fail
        have kcx := cell_regrown cx
        have kcz := cell_regrown cz
        refine wp_region_quiet_below (by kernel_rfl) (by kernel_rfl) ?_
        repeat (go_big_quiet_step (first | exact hcs _ _))
        refine wpQuiet_nil ?_
        intro _ hw'
        obtain ⟨⟨dq, osq⟩, hw''⟩ := hw'
        subst hw''
        clear kcx kcz hcs
        have hb3 := below_regrown wr dq osq
        generalize grow (redrawn wr dq) osq = w3 at *
        replace cx := cell_later hb3 cx
        replace cz := cell_later hb3 cz
        have hsb4 := Lib.hid (hsb.out.later hb3)
        clear cx cz
        go_wp2_with fail
        go_roundw
        case rel =>
          refine ⟨p, c, by omega, by omega, rfl, rfl, ⟨HI.out.1, fun x h => ?_⟩, hsb4⟩
          rw [HZ.out] at h
          cases h
          exact decide_eq_true hlv
        case measure => simp [intOf]; omega
      · have hdn : (!decide (cf y z < 0)) = true := by simp; omega
        go_wp2_with fail
        have kcx := cell_regrown cx
        have kcz := cell_regrown cz
        refine wp_region_quiet_below (by kernel_rfl) (by kernel_rfl) ?_
        repeat (go_big_quiet_step (first | exact hcs _ _))
        refine wpQuiet_nil ?_
        intro _ hw'
        obtain ⟨⟨dq, osq⟩, hw''⟩ := hw'
        subst hw''
        clear kcx kcz hcs
        have hb3 := below_regrown wr dq osq
        generalize grow (redrawn wr dq) osq = w3 at *
        replace cx := cell_later hb3 cx
        replace cz := cell_later hb3 cz
        have hsb4 := Lib.hid (hsb.out.later hb3)
        clear cx cz
        go_wp2_with fail
        go_roundw
        case rel =>
          refine ⟨c + 1, q, by omega, by omega, by go_num, rfl, ⟨fun x _ h => ?_, HI.out.2⟩, hsb4⟩
          rw [Nat.add_sub_cancel, HZ.out] at h
          cases h
          exact decide_eq_false (by omega)
        case measure => simp [intOf]; omega
    · have hpq' : p = q := by omega
      subst hpq'
      have hpl : p ≤ U.length := by have := HUL.out; omega
      have hres := merge_last HC.out.swo HU.out HI.out.1 HI.out.2 hpl
      have hsb0 : SB en1 1 w0 blk off (P ++ (U.take (m - a) ++ y :: U.drop (m - a)) ++ S) wr := by
        rw [List.take_of_length_le (by rw [HUL.out]; omega), List.drop_of_length_le (by rw [HUL.out]; omega)]
        simpa using hsb.out
      have HR := Lib.hid hres
      have HSB := Lib.hid hsb0
      have HPL := Lib.hid hpl
      clear hres hsb0 hsb HI hpl
      go_wp2_with fail
      go_loopw [17] (fun vk wr2 => ∃ t : Nat, p ≤ t ∧ a + t ≤ m ∧ vk = .int .i64 ((a : Int) + t) ∧ Hid (SB en1 1 w0 blk off (P ++ (U.take t ++ y :: U.drop t) ++ S) wr2)) (fun vk _ => (intOf vk).toNat)
      case atStart => exact ⟨m - a, by omega, by omega, by go_num, HSB.out⟩
      case round =>
        obtain ⟨t, htp, htm, rfl, hsb⟩ := hrel
        rename World => wr2
        by_cases htl : p < t
        · obtain ⟨t, rfl⟩ : ∃ t', t = t' + 1 := ⟨t - 1, by omega⟩
          have htU : t < U.length := by have := HUL.out; omega
          obtain ⟨z, hz⟩ : ∃ z, U[t] = z := ⟨_, rfl⟩
          have e1 : U.drop t = z :: U.drop (t + 1) := by rw [← hz]; exact List.drop_eq_getElem_cons htU
          have e2 : U.take (t + 1) = U.take t ++ [z] := by rw [← hz]; exact List.take_succ_eq_append_getElem htU
          have hl1 : (P ++ U.take t).length = a + t := by rw [List.length_append, List.length_take, HA.out]; omega
          have hsb1 : SB en1 1 w0 blk off ((P ++ U.take t) ++ z :: ([] ++ y :: (U.drop (t + 1) ++ S))) wr2 := by
            have := hsb.out
            rw [e2] at this
            simp only [List.append_assoc, List.cons_append, List.nil_append] at this ⊢
            exact this
          have hln1 : ((P ++ U.take t) ++ z :: ([] ++ y :: (U.drop (t + 1) ++ S))).length = n := by
            have := HL.out
            rw [← this]
            simp only [List.length_append, List.length_cons, List.length_take, List.length_drop, List.length_nil]
            omega
          obtain ⟨c1, f1⟩ := hsb1.cell1 R.out hln1 hl1.symm rfl
          obtain ⟨c2, f2⟩ := SB.cell1 (P := (P ++ U.take t) ++ [z]) (S := U.drop (t + 1) ++ S) (x := y) (i := a + (t + 1)) (by simpa using hsb1) R.out (by simpa using hln1) (by rw [List.length_append, hl1]; rfl) rfl
          have hsw := hsb1.swapped1' R.out (i := a + t) (j := a + (t + 1)) hl1.symm (by rw [hl1]; rfl) rfl rfl
          have hres : ∀ wn, SB en1 1 w0 blk off ((P ++ U.take t) ++ y :: ([] ++ z :: (U.drop (t + 1) ++ S))) wn → Hid (SB en1 1 w0 blk off (P ++ (U.take t ++ y :: U.drop t) ++ S) wn) := by
            intro wn h
            rw [e1]
            show SB _ _ _ _ _ _ _
            simp only [List.append_assoc, List.cons_append, List.nil_append] at h ⊢
            exact h
          have p1 : (a : Int) + ((t + 1 : Nat) : Int) < (n : Int) := by omega
          have p2 : (a : Int) + ((t + 1 : Nat) : Int) - 1 < (n : Int) := by omega
          have p3 : (0 : Int) ≤ (a : Int) + ((t + 1 : Nat) : Int) := by omega
          have p4 : (0 : Int) ≤ (a : Int) + ((t + 1 : Nat) : Int) - 1 := by omega
          have hm1 : (a : Int) + ((t + 1 : Nat) : Int) - 1 = (a : Int) + (t : Int) := by omega
          have HM1 := Lib.hid hm1
          have q1 : ((a : Int) + ((t + 1 : Nat) : Int)).toNat = a + (t + 1) := by omega
          have q2 : ((a : Int) + ((t + 1 : Nat) : Int) - 1).toNat = a + t := by omega
          have HSW := Lib.hid hsw
          have HRS := Lib.hid hres
          clear hz e1 e2 hl1 hsb1 hln1 hsw hsb hres hm1
          go_wp2_with fail
          go_big_region
          go_wp2
          go_roundw
          case rel => exact ⟨t, by omega, by omega, by go_num, HRS.out _ HSW.out.drew⟩
          case measure => simp [intOf]; omega
        · have htp' : t = p := by omega
          subst htp'
          have hfin := hsb.out
          rw [← HR.out] at hfin
          have HF := Lib.hid hfin
          clear hfin hsb
          go_wp2_with fail
          exact bodyPost_ret (v := .tuple #[]) (by simp [results, Tryz.results106, go_sem]) rfl ⟨rfl, HF.out⟩
end Go.Proofs.YtnolbabpkhdpmaaGreat
