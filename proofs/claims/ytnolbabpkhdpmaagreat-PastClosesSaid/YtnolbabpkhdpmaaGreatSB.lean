/-
  The stable sort of numbers in place: insertion.
-/
import Derived.Test.YtnolbabpkhdpmaaGreatSA
namespace Go.Proofs.YtnolbabpkhdpmaaGreat
open Go.RowKit Go.Sort Go.BigFrame

/-- What is asked of a comparison: in each world that the sort passes through. -/
def Cmp1 (g : Nat) (cb : Array Value) (cf : Int → Int → Int) (Q : Int → Prop) (w0 : World) (blk off n : Nat) : Prop :=
  ∀ (l : List Int) (W : World), l.length = n → SB en1 1 w0 blk off l W → ∀ x y, Q x → Q y → Calls Tryz.prog g (#[.int .i64 x, .int .i64 y] ++ cb) W fun e w' => e = .returned (.int .i64 (cf x y)) ∧ Below W.heap.size W w'

abbrev ltC (cf : Int → Int → Int) : Int → Int → Bool := fun x y => decide (cf x y < 0)

structure CmpOk (g : Nat) (cb : Array Value) (cf : Int → Int → Int) (Q : Int → Prop) (w0 : World) (blk off n : Nat) (l0 : List Int) : Prop where
  row : Rw en1 1 w0 blk off n l0
  small : n ≤ 1000000
  eg : ∀ args w, (callFunc g args).run Tryz.prog w = .ok (.enter g args) w
  cmp : Cmp1 g cb cf Q w0 blk off n
  swo : SWO (ltC cf)

set_option maxRecDepth 100000 in
set_option maxHeartbeats 1000000 in
theorem insertion_any {w0 : World} {blk off n : Nat} {l0 : List Int} {g : Nat} {cb : Array Value} {cf : Int → Int → Int} {Q : Int → Prop} (C : CmpOk g cb cf Q w0 blk off n l0) (W : World) (P U S : List Int)
    (hW : SB en1 1 w0 blk off (P ++ U ++ S) W) (hlen : (P ++ U ++ S).length = n) (hQ : ∀ x ∈ P ++ U ++ S, Q x) (a b cap : Nat) (ha : a = P.length) (hb : b = P.length + U.length) :
    Calls Tryz.prog 105 #[.slice (some ⟨blk, off, none⟩) n cap, .int .i64 a, .int .i64 b, .func (.func g) #[] cb] W fun e W' => e = .returned (.tuple #[]) ∧ SB en1 1 w0 blk off (P ++ isortL (ltC cf) U ++ S) W' := by
  have hsm := C.small
  have R := Lib.hid C.row
  have heg := C.eg
  have HC := Lib.hid C
  have hl := hlen
  simp only [List.length_append] at hl
  have hbn : b ≤ n := by omega
  have hab : a ≤ b := by omega
  have HU := Lib.hid (show U.length = b - a by omega)
  have HL := Lib.hid hlen
  have HA := Lib.hid ha
  have HQ := Lib.hid hQ
  have HW := Lib.hid hW
  clear hl hlen hQ ha hb hW C
  go_enter Tryz.func105, Tryz.ntmps105
  go_wp2
  go_loopw [8] (fun vi wr => ∃ c : Nat, 1 ≤ c ∧ c ≤ b - a + 1 ∧ vi = .int .i64 ((a + c : Nat) : Int) ∧ Hid (SB en1 1 w0 blk off (P ++ isortL (ltC cf) (U.take c) ++ U.drop c ++ S) wr)) (fun vi _ => n + 2 - (intOf vi).toNat)
  case atStart =>
    refine ⟨1, Nat.le_refl _, by omega, by go_num, ?_⟩
    have e : isortL (ltC cf) (U.take 1) = U.take 1 := by
      cases U with
      | nil => rfl
      | cons x U => rfl
    show SB _ _ _ _ _ _ _
    rw [e, List.append_assoc P, List.take_append_drop]
    exact HW.out
  case round =>
    obtain ⟨c, hc1, hc2, rfl, hsb⟩ := hrel
    rename World => wr
    by_cases hlt : a + c < b
    · have hcl : c < U.length := by have := HU.out; omega
      go_wp2
      go_loopw [9] (fun vj wr2 => ∃ j : Nat, vj = .int .i64 j ∧ a ≤ j ∧ j ≤ a + c ∧ Hid (∃ X Y, isortL (ltC cf) (U.take c) = X ++ Y ∧ (∀ y ∈ Y, ltC cf U[c] y = true) ∧ j = a + X.length ∧ SB en1 1 w0 blk off (P ++ X ++ U[c] :: (Y ++ (U.drop (c + 1) ++ S))) wr2)) (fun vj _ => (intOf vj).toNat)
      case atStart =>
        refine ⟨a + c, rfl, by omega, Nat.le_refl _, isortL (ltC cf) (U.take c), [], by simp, by simp, by rw [isortL_length, List.length_take]; omega, ?_⟩
        have := hsb.out
        rw [List.drop_eq_getElem_cons hcl] at this
        simp only [List.append_assoc, List.nil_append, List.cons_append] at this ⊢
        exact this
      case round =>
        obtain ⟨j, rfl, haj, hji, HI⟩ := hrel
        rename World => wr2
        obtain ⟨X, Y, hXY, hY, hj, hsb2⟩ := HI.out
        obtain ⟨x, hx⟩ : ∃ x, U[c] = x := ⟨_, rfl⟩
        rw [hx] at hsb2 hY
        have hperm : (X ++ Y).Perm (U.take c) := by rw [← hXY]; exact isortL_perm _
        have hlXY : X.length + Y.length = c := by have := hperm.length_eq; rw [List.length_append, List.length_take] at this; omega
        have hqx : Q x := HQ.out x (by rw [← hx]; simp)
        have htake : U.take (c + 1) = U.take c ++ [x] := by rw [List.take_succ_eq_append_getElem hcl, hx]
        have hln : (P ++ X ++ x :: (Y ++ (U.drop (c + 1) ++ S))).length = n := by
          rw [← HL.out]; simp only [List.length_append, List.length_cons, List.length_drop]; omega
        have out : (∀ z, X.getLast? = some z → ltC cf x z = false) → ∀ wn, SB en1 1 w0 blk off (P ++ X ++ x :: (Y ++ (U.drop (c + 1) ++ S))) wn → Hid (SB en1 1 w0 blk off (P ++ isortL (ltC cf) (U.take (c + 1)) ++ U.drop (c + 1) ++ S) wn) := by
          intro h1 wn h2
          show SB _ _ _ _ _ _ _
          rw [htake, ins_end HC.out.swo hXY hY h1]
          simpa using h2
        by_cases hja : a < j
        · obtain ⟨jp, rfl⟩ : ∃ jp, j = jp + 1 := ⟨j - 1, by omega⟩
          obtain ⟨X', z, rfl⟩ : ∃ X' z, X = X' ++ [z] := by
            rcases List.eq_nil_or_concat X with h | ⟨X', z, h⟩
            · subst h; simp at hj; omega
            · exact ⟨X', z, by rw [h]; simp⟩
          have hl1 : (P ++ X').length = jp := by
            have := HA.out; simp only [List.length_append, List.length_singleton] at hj ⊢; omega
          have hs0 : P ++ (X' ++ [z]) ++ x :: (Y ++ (U.drop (c + 1) ++ S)) = (P ++ X') ++ z :: ([] ++ x :: (Y ++ (U.drop (c + 1) ++ S))) := by simp
          have hqz : Q z := HQ.out z (by
            have : z ∈ U.take c := hperm.mem_iff.1 (by simp)
            have := List.mem_of_mem_take this
            simp [this])
          have hsb3 := hsb2
          rw [hs0] at hsb3 hln
          obtain ⟨cz, fz⟩ := hsb3.cell1 R.out hln hl1.symm rfl
          obtain ⟨cx, fx⟩ := SB.cell1 (P := (P ++ X') ++ [z]) (S := Y ++ (U.drop (c + 1) ++ S)) (x := x) (i := jp + 1) (by simpa using hsb3) R.out (by simpa using hln) (by rw [List.length_append, hl1]; rfl) rfl
          have hjpn : jp + 1 < n := by omega
          have hj1 : ((jp + 1 : Nat) : Int) = (jp : Int) + 1 := by omega
          have hjg : decide ((a : Int) < (jp : Int) + 1) = true := by simp; omega
          have p0 : (0 : Int) ≤ (jp : Int) + 1 := by omega
          have p1 : (jp : Int) + 1 < (n : Int) := by omega
          have p2 : (jp : Int) < (n : Int) := by omega
          have hwp : IntKind.i64.wrap (jp : Int) = (jp : Int) := by rw [IntKind.wrap_i64]; omega
          have e0 : ((jp : Int) + 1).toNat = jp + 1 := by omega
          have hcs : ∀ d os, Calls Tryz.prog g (#[.int .i64 x, .int .i64 z] ++ cb) (grow (redrawn wr2 d) os) fun e w'' => e = .returned (.int .i64 (cf x z)) ∧ ∃ p : Regrown, w'' = grow (redrawn wr2 p.d) p.os := fun d os => Calls.regrown_of (HC.out.cmp _ _ hln (hsb3.later (below_regrown wr2 d os)) x z hqx hqz)
          have OUT := Lib.hid out
          have HXY := Lib.hid hXY
          have HY := Lib.hid hY
          have HSB := Lib.hid hsb3
          have HLN := Lib.hid hln
          have HL1 := Lib.hid hl1
          have HX := Lib.hid hx
          have HP := Lib.hid hlXY
          clear out hXY hY hsb2 hsb3 hln hl1 hx hlXY hperm hs0 hqx hqz htake hj HI hsb
          by_cases hlv : cf x z < 0
          · go_wp2_with fail
            have kcx := cell_regrown cx
            have kcz := cell_regrown cz
            refine wp_region_quiet_below (by kernel_rfl) (by kernel_rfl) ?_
            repeat (go_big_quiet_step (first | exact hcs _ _))
            refine wpQuiet_nil ?_
            intro _ hw'
            obtain ⟨⟨dq, osq⟩, hw''⟩ := hw'
            subst hw''
            clear kcx kcz hcs
            have hb3 := below_regrown wr2 dq osq
            generalize grow (redrawn wr2 dq) osq = w3 at *
            replace cx := cell_later hb3 cx
            replace cz := cell_later hb3 cz
            have hsb4 := HSB.out.later hb3
            obtain ⟨cz3, fz3⟩ := hsb4.cell1 R.out HLN.out HL1.out.symm rfl
            obtain ⟨cx3, fx3⟩ := SB.cell1 (P := (P ++ X') ++ [z]) (S := Y ++ (U.drop (c + 1) ++ S)) (x := x) (i := jp + 1) (by simpa using hsb4) R.out (by simpa using HLN.out) (by rw [List.length_append, HL1.out]; rfl) rfl
            have hsw := hsb4.swapped1' R.out (i := jp) (j := jp + 1) HL1.out.symm (by rw [HL1.out]; rfl) rfl rfl
            have HSW := Lib.hid hsw
            clear hsb4 hsw cx cz fz fx
            go_wp2_with fail
            go_big_region
            go_wp2
            go_roundw
            case rel =>
              refine ⟨jp, by go_num, by omega, by omega, Lib.hid ⟨X', z :: Y, by rw [HXY.out]; simp, ?_, by have := HL1.out; have := HA.out; rw [List.length_append] at *; omega, ?_⟩⟩
              · intro y hy
                rw [HX.out]
                rcases List.mem_cons.1 hy with rfl | hy
                · exact decide_eq_true hlv
                · exact HY.out y hy
              · rw [HX.out]
                have := HSW.out.drew
                simp only [List.append_assoc, List.nil_append, List.cons_append] at this ⊢
                exact this
            case measure => simp [intOf]
          · go_wp2_with fail
            have kcx := cell_regrown cx
            have kcz := cell_regrown cz
            refine wp_region_quiet_below (by kernel_rfl) (by kernel_rfl) ?_
            repeat (go_big_quiet_step (first | exact hcs _ _))
            refine wpQuiet_nil ?_
            intro _ hw'
            obtain ⟨⟨dq, osq⟩, hw''⟩ := hw'
            subst hw''
            clear kcx kcz hcs
            have hb3 := below_regrown wr2 dq osq
            generalize grow (redrawn wr2 dq) osq = w3 at *
            replace cx := cell_later hb3 cx
            replace cz := cell_later hb3 cz
            have hsb4 := OUT.out (by simp only [List.getLast?_append, List.getLast?_singleton]; simp; omega) w3 (by have := HSB.out.later hb3; simpa using this)
            clear cx cz fz fx
            go_wp2_with fail
            go_roundw
            case rel => exact ⟨c + 1, by omega, by omega, by go_num, hsb4⟩
            case measure => simp [intOf]; omega
        · have hjg : decide ((a : Int) < (j : Int)) = false := by simp; omega
          have hX : X = [] := List.eq_nil_of_length_eq_zero (by omega)
          subst hX
          have hsb4 : ∀ w', Below wr2.heap.size wr2 w' → Hid (SB en1 1 w0 blk off (P ++ isortL (ltC cf) (U.take (c + 1)) ++ U.drop (c + 1) ++ S) w') := fun w' hb => out (by simp) w' (hsb2.later hb)
          have HSB := Lib.hid hsb4
          clear hsb4 out hXY hY hsb2 hln hx hlXY hperm hqx htake hj HI hsb
          go_wp2_with fail
          refine wp_region_quiet_below (by kernel_rfl) (by kernel_rfl) ?_
          repeat (go_big_quiet_step (first | fail))
          refine wpQuiet_nil ?_
          intro _ hw'
          obtain ⟨⟨dq, osq⟩, hw''⟩ := hw'
          subst hw''
          have hb3 := below_regrown wr2 dq osq
          generalize grow (redrawn wr2 dq) osq = w3 at *
          have hsb5 := HSB.out w3 hb3
          go_wp2_with fail
          go_roundw
          case rel => exact ⟨c + 1, by omega, by omega, by go_num, hsb5⟩
          case measure => simp [intOf]; omega
    · have hlt' : U.take c = U := List.take_of_length_le (by have := HU.out; omega)
      have hld : U.drop c = [] := List.drop_of_length_le (by have := HU.out; omega)
      rw [hlt', hld, List.append_nil] at hsb
      clear hlt' hld
      go_wp2
      go_end0
      exact ⟨rfl, hsb.out⟩
end Go.Proofs.YtnolbabpkhdpmaaGreat
