/-
  The stable sort of numbers in place: a merge of one with what is in order.
-/
import Derived.Test.YtnolbabpkhdpmaaGreatSB
namespace Go.Proofs.YtnolbabpkhdpmaaGreat
open Go.RowKit Go.Sort Go.BigFrame

theorem get_app2 {α : Type} {P Q R : List α} {x : α} {t : Nat} (h : Q[t]? = some x) : ∃ A B, P ++ Q ++ R = A ++ x :: B ∧ A.length = P.length + t := by
  have hlt : t < Q.length := by
    rcases Nat.lt_or_ge t Q.length with h' | h'
    · exact h'
    · rw [List.getElem?_eq_none h'] at h; cases h
  rw [List.getElem?_eq_getElem hlt] at h
  cases h
  refine ⟨P ++ Q.take t, Q.drop (t + 1) ++ R, ?_, by rw [List.length_append, List.length_take]; omega⟩
  have e := List.drop_eq_getElem_cons hlt
  have e2 : Q = Q.take t ++ Q[t] :: Q.drop (t + 1) := by rw [← e, List.take_append_drop]
  conv => lhs; rw [e2]
  simp only [List.append_assoc, List.cons_append]

set_option maxRecDepth 100000 in
set_option maxHeartbeats 1000000 in
theorem symMerge_one {w0 : World} {blk off n : Nat} {l0 : List Int} {g : Nat} {cb : Array Value} {cf : Int → Int → Int} {Q : Int → Prop} (C : CmpOk g cb cf Q w0 blk off n l0) (W : World) (P : List Int) (x : Int) (V S : List Int)
    (hW : SB en1 1 w0 blk off (P ++ [x] ++ V ++ S) W) (hlen : (P ++ [x] ++ V ++ S).length = n) (hQ : ∀ z ∈ P ++ [x] ++ V ++ S, Q z) (hV : Asc (ltC cf) V) (a m b cap : Nat) (ha : a = P.length) (hm : m = a + 1) (hb : b = a + 1 + V.length) :
    Calls Tryz.prog 106 #[.slice (some ⟨blk, off, none⟩) n cap, .int .i64 a, .int .i64 m, .int .i64 b, .func (.func g) #[] cb] W fun e W' => e = .returned (.tuple #[]) ∧ SB en1 1 w0 blk off (P ++ isortL (ltC cf) ([x] ++ V) ++ S) W' := by
  have hsm := C.small
  have R := Lib.hid C.row
  have heg := C.eg
  have HC := Lib.hid C
  subst hm
  have hl := hlen
  simp only [List.length_append, List.length_singleton] at hl
  have hbn : b ≤ n := by omega
  have hab : a + 1 ≤ b := by omega
  have HVL := Lib.hid (show V.length = b - a - 1 by omega)
  have HL := Lib.hid hlen
  have HA := Lib.hid ha
  have HQ := Lib.hid hQ
  have HW := Lib.hid hW
  have HV := Lib.hid hV
  rw [show ((a + 1 : Nat) : Int) = (a : Int) + 1 from by omega]
  have hE : (((a : Int) + 1 - (a : Int)) == 1) = true := by simp; omega
  have hE' : ((1 : Int) == 1) = true := rfl
  clear hl hlen hQ ha hb hW C hV
  go_enter Tryz.func106, Tryz.ntmps106
  go_wp2
  go_loopw [10, 11] (fun vi vj wr => ∃ p q : Nat, p ≤ q ∧ a + 1 + q ≤ b ∧ vi = .int .i64 ((a : Int) + 1 + p) ∧ vj = .int .i64 ((a : Int) + 1 + q) ∧
      Hid ((∀ y, 0 < p → V[p - 1]? = some y → ltC cf y x = true) ∧ (∀ y, V[q]? = some y → ltC cf y x = false)) ∧ Hid (SB en1 1 w0 blk off (P ++ [x] ++ V ++ S) wr)) (fun vi vj _ => (intOf vj).toNat - (intOf vi).toNat)
  case atStart =>
    refine ⟨0, b - a - 1, by omega, by omega, by go_num, by go_num, ⟨fun _ h => by omega, fun y h => ?_⟩, HW.out⟩
    rw [List.getElem?_eq_none (by have := HVL.out; omega)] at h
    cases h
  case round =>
    obtain ⟨p, q, hpq, hqb, rfl, rfl, HI, hsb⟩ := hrel
    rename World => wr
    by_cases hlt : p < q
    · obtain ⟨c, hcd⟩ : ∃ c, c = (p + q) / 2 := ⟨_, rfl⟩
      have hc1' : p ≤ c := by omega
      have hc2 : c < q := by omega
      have hhd : ((a : Int) + 1 + p + ((a : Int) + 1 + q)) / 2 = (a : Int) + 1 + c := by omega
      clear hcd
      have hcl : c < V.length := by have := HVL.out; omega
      obtain ⟨z, hz⟩ : ∃ z, V[c]? = some z := ⟨_, List.getElem?_eq_getElem hcl⟩
      obtain ⟨A, B, hAB, hA⟩ := get_app2 (P := P ++ [x]) (R := S) hz
      have hsb1 := hsb.out
      rw [hAB] at hsb1
      have hln1 := HL.out
      rw [hAB] at hln1
      obtain ⟨cz, _⟩ := hsb1.cell1 R.out hln1 (i := a + 1 + c) (by rw [hA, List.length_append, List.length_singleton, HA.out]) rfl
      have e1 : P ++ [x] ++ V ++ S = P ++ x :: (V ++ S) := by simp
      have hsb2 := hsb.out
      rw [e1] at hsb2
      have hln2 := HL.out
      rw [e1] at hln2
      obtain ⟨cx, _⟩ := hsb2.cell1 R.out hln2 (i := a) HA.out rfl
      have hqx : Q x := HQ.out x (by simp)
      have hqz : Q z := HQ.out z (by have := List.mem_of_getElem? hz; simp [this])
      have hcs : ∀ d os, Calls Tryz.prog g (#[.int .i64 z, .int .i64 x] ++ cb) (grow (redrawn wr d) os) fun e w'' => e = .returned (.int .i64 (cf z x)) ∧ ∃ p : Regrown, w'' = grow (redrawn wr p.d) p.os := fun d os => Calls.regrown_of (HC.out.cmp _ _ hln1 (hsb1.later (below_regrown wr d os)) z x hqz hqx)
      have p0 : (0 : Int) ≤ (a : Int) + 1 + c := by omega
      have p1 : (a : Int) + 1 + c < (n : Int) := by omega
      have p2 : (a : Int) < (n : Int) := by omega
      have e0 : ((a : Int) + 1 + c).toNat = a + 1 + c := by omega
      have HZ := Lib.hid hz
      clear hAB hA hsb1 hln1 e1 hsb2 hln2 hqx hqz hz
      by_cases hlv : cf z x < 0
      · go_wp2_with fail
        have kcx := cell_regrown cx
        have kcz := cell_regrown cz
        refine wp_region_quiet_below (by kernel_rfl) (by kernel_rfl) ?_
        repeat (go_big_quiet_step (first | exact hcs _ _))
        refine wpQuiet_nil ?_
        intro _ hw'
        obtain ⟨⟨dq, osq⟩, hw''⟩ := hw'
        subst hw''
        clear kcx kcz hcs
        have hb3 := below_regrown wr dq osq
        generalize grow (redrawn wr dq) osq = w3 at *
        replace cx := cell_later hb3 cx
        replace cz := cell_later hb3 cz
        have hsb4 := Lib.hid (hsb.out.later hb3)
        clear cx cz
        go_wp2_with fail
        go_roundw
        case rel =>
          refine ⟨c + 1, q, by omega, by omega, by go_num, rfl, ⟨fun y _ h => ?_, HI.out.2⟩, hsb4⟩
          rw [Nat.add_sub_cancel, HZ.out] at h
          cases h
          exact decide_eq_true hlv
        case measure => simp [intOf]; omega
      · go_wp2_with fail
        have kcx := cell_regrown cx
        have kcz := cell_regrown cz
        refine wp_region_quiet_below (by kernel_rfl) (by kernel_rfl) ?_
        repeat (go_big_quiet_step (first | exact hcs _ _))
        refine wpQuiet_nil ?_
        intro _ hw'
        obtain ⟨⟨dq, osq⟩, hw''⟩ := hw'
        subst hw''
        clear kcx kcz hcs
        have hb3 := below_regrown wr dq osq
        generalize grow (redrawn wr dq) osq = w3 at *
        replace cx := cell_later hb3 cx
        replace cz := cell_later hb3 cz
        have hsb4 := Lib.hid (hsb.out.later hb3)
        clear cx cz
        go_wp2_with fail
        go_roundw
        case rel =>
          refine ⟨p, c, by omega, by omega, rfl, rfl, ⟨HI.out.1, fun y h => ?_⟩, hsb4⟩
          rw [HZ.out] at h
          cases h
          exact decide_eq_false (by omega)
        case measure => simp [intOf]; omega
    · have hpq' : p = q := by omega
      subst hpq'
      have hpl : p ≤ V.length := by have := HVL.out; omega
      have hres := merge_one HC.out.swo HV.out HI.out.1 HI.out.2 hpl
      have hsb0 : SB en1 1 w0 blk off (P ++ (V.take 0 ++ x :: V.drop 0) ++ S) wr := by simpa using hsb.out
      have HR := Lib.hid hres
      have HSB := Lib.hid hsb0
      have HPL := Lib.hid hpl
      clear hres hsb0 hsb HI hpl
      go_wp2_with fail
      go_loopw [13] (fun vk wr2 => ∃ t : Nat, t ≤ p ∧ vk = .int .i64 ((a : Int) + t) ∧ Hid (SB en1 1 w0 blk off (P ++ (V.take t ++ x :: V.drop t) ++ S) wr2)) (fun vk _ => a + p - (intOf vk).toNat)
      case atStart => exact ⟨0, Nat.zero_le _, by go_num, HSB.out⟩
      case round =>
        obtain ⟨t, htp, rfl, hsb⟩ := hrel
        rename World => wr2
        by_cases htl : t < p
        · have htV : t < V.length := by have := HPL.out; omega
          obtain ⟨y, hy⟩ : ∃ y, V[t] = y := ⟨_, rfl⟩
          have e1 : V.drop t = y :: V.drop (t + 1) := by rw [← hy]; exact List.drop_eq_getElem_cons htV
          have e2 : V.take (t + 1) = V.take t ++ [y] := by rw [← hy]; exact List.take_succ_eq_append_getElem htV
          have hl1 : (P ++ V.take t).length = a + t := by rw [List.length_append, List.length_take, HA.out]; omega
          have hsb1 : SB en1 1 w0 blk off ((P ++ V.take t) ++ x :: ([] ++ y :: (V.drop (t + 1) ++ S))) wr2 := by
            have := hsb.out
            rw [e1] at this
            simp only [List.append_assoc, List.cons_append, List.nil_append] at this ⊢
            exact this
          have hln1 : ((P ++ V.take t) ++ x :: ([] ++ y :: (V.drop (t + 1) ++ S))).length = n := by
            have := HL.out
            rw [← this]
            simp only [List.length_append, List.length_cons, List.length_take, List.length_drop, List.length_nil]
            omega
          obtain ⟨c1, f1⟩ := hsb1.cell1 R.out hln1 hl1.symm rfl
          obtain ⟨c2, f2⟩ := SB.cell1 (P := (P ++ V.take t) ++ [x]) (S := V.drop (t + 1) ++ S) (x := y) (i := a + t + 1) (by simpa using hsb1) R.out (by simpa using hln1) (by rw [List.length_append, hl1]; rfl) rfl
          have hsw := hsb1.swapped1 R.out (i := a + t) (j := a + t + 1) hl1.symm (by rw [hl1]; rfl) rfl rfl
          have hres : ∀ wn, SB en1 1 w0 blk off ((P ++ V.take t) ++ y :: ([] ++ x :: (V.drop (t + 1) ++ S))) wn → Hid (SB en1 1 w0 blk off (P ++ (V.take (t + 1) ++ x :: V.drop (t + 1)) ++ S) wn) := by
            intro wn h
            rw [e2]
            show SB _ _ _ _ _ _ _
            simp only [List.append_assoc, List.cons_append, List.nil_append] at h ⊢
            exact h
          have p1 : (a : Int) + t < (n : Int) := by omega
          have p2 : (a : Int) + t + 1 < (n : Int) := by omega
          have p3 : (0 : Int) ≤ (a : Int) + t := by omega
          have p4 : (0 : Int) ≤ (a : Int) + t + 1 := by omega
          have q1 : ((a : Int) + t).toNat = a + t := by omega
          have q2 : ((a : Int) + t + 1).toNat = a + t + 1 := by omega
          have HSW := Lib.hid hsw
          have HRS := Lib.hid hres
          clear hy e1 e2 hl1 hsb1 hln1 hsw hsb hres
          go_wp2_with fail
          go_big_region
          go_wp2
          go_roundw
          case rel => exact ⟨t + 1, by omega, by go_num, HRS.out _ HSW.out.drew⟩
          case measure => simp [intOf]; omega
        · have htp' : t = p := by omega
          subst htp'
          have hfin := hsb.out
          rw [← HR.out] at hfin
          have HF := Lib.hid hfin
          clear hfin hsb
          go_wp2_with fail
          exact bodyPost_ret (v := .tuple #[]) (by simp [results, Tryz.results106, go_sem]) rfl ⟨rfl, HF.out⟩
end Go.Proofs.YtnolbabpkhdpmaaGreat
