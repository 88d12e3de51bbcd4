/-
  Layer 7 (multi): the example. (printed by tools/gen_ml1.py)
-/
import Derived.Test.YtagbaejgjhmokaaML0
import Derived.Test.YtagbaejgjhmokaaFL
import Derived.Test.YtagbaejgjhmokaaMRR
import Derived.Deep.DeepCutAuto
namespace Go.Proofs.Ytagbaejgjhmokaa
open Go.RowKit Go.Sort Go.BigFrame

theorem bx_set {w : World} {q : Nat} {T : TypeId} {cs : Array Value} (h : Bx w q cs T) (j : Nat) (v : Value) : Bx (w.setCell ⟨q, j, none⟩ v) q (cs.setIfInBounds j v) T := by
  obtain ⟨hlt, hk⟩ := Array.getElem?_eq_some_iff.1 h
  show (w.heap.modify q _)[q]? = _
  rw [Array.getElem?_eq_getElem (by rw [Array.size_modify]; exact hlt), Array.getElem_modify_self, hk]
  rfl
theorem own_bx {w : World} {B n q : Nat} {e T : TypeId} {size : Nat} {v : Value} {xs : List Value} {cs : Array Value} (h : w.ownsRow B e size v n xs) (hq : Bx w q cs T) (hT : (e == T) = false) (j : Nat) (u : Value) : (w.setCell ⟨q, j, none⟩ u).ownsRow B e size v n xs := by
  refine own_but h ((But.refl (fun k => k = q) w).set rfl _) fun k hk hs => ?_
  obtain ⟨_, h2⟩ := h
  rcases h2 with ⟨rfl, _⟩ | ⟨g, cap, cur, rfl, _, hg, _⟩
  · cases hk
  · have hgk : g = k := by simpa [Value.ownBlock] using hk
    rw [hgk, hs] at hg
    unfold Bx at hq
    rw [hq] at hg
    injection hg with hg
    injection hg with _ h3 _
    rw [h3] at hT
    simp at hT
section
variable {w : World} {q : Nat} {T : TypeId} {a b c d e a' b' c' d' e' : Value} (h : Bx w q #[a, b, c, d, e] T)
abbrev set5 (w : World) (q : Nat) (a b c d e : Value) : World := ((((w.setCell ⟨q, 0, none⟩ a).setCell ⟨q, 1, none⟩ b).setCell ⟨q, 2, none⟩ c).setCell ⟨q, 3, none⟩ d).setCell ⟨q, 4, none⟩ e
include h
theorem bx_set5 : Bx (set5 w q a' b' c' d' e') q #[a', b', c', d', e'] T := bx_set (bx_set (bx_set (bx_set (bx_set h 0 a') 1 b') 2 c') 3 d') 4 e'
theorem own_set5 {B n : Nat} {t : TypeId} {size : Nat} {v : Value} {xs : List Value} (ho : w.ownsRow B t size v n xs) (hT : (t == T) = false) : (set5 w q a' b' c' d' e').ownsRow B t size v n xs :=
  own_bx (own_bx (own_bx (own_bx (own_bx ho h hT 0 a') (bx_set h 0 a') hT 1 b') (bx_set (bx_set h 0 a') 1 b') hT 2 c') (bx_set (bx_set (bx_set h 0 a') 1 b') 2 c') hT 3 d') (bx_set (bx_set (bx_set (bx_set h 0 a') 1 b') 2 c') 3 d') hT 4 e'
end
theorem below_set5 {w0 w : World} {B q : Nat} (h : Below B w0 w) (hq : B ≤ q) (a b c d e : Value) : Below B w0 (set5 w q a b c d e) :=
  ((((h.setCell hq a).setCell hq b).setCell hq c).setCell hq d).setCell hq e
theorem bx_set_other {w : World} {p q : Nat} {T : TypeId} {cs : Array Value} (h : Bx w p cs T) (hne : p ≠ q) (j : Nat) (v : Value) : Bx (w.setCell ⟨q, j, none⟩ v) p cs T := by
  unfold Bx at *
  show (w.heap.modify q _)[p]? = _
  rw [Array.getElem?_modify, if_neg (fun e => hne e.symm)]
  exact h
theorem bx_set5_other {w : World} {p q : Nat} {T : TypeId} {cs : Array Value} (h : Bx w p cs T) (hne : p ≠ q) (a b c d e : Value) : Bx (set5 w q a b c d e) p cs T :=
  bx_set_other (bx_set_other (bx_set_other (bx_set_other (bx_set_other h hne 0 a) hne 1 b) hne 2 c) hne 3 d) hne 4 e
theorem rd_nilP (w : World) : PRd w (.slice none 0 0) [] := ⟨none, 0, rfl, Nat.le_refl _, Nat.zero_le _, fun _ => rfl, fun _ ha => nomatch ha⟩
theorem rd_nilI (w : World) : Rd w (.slice none 0 0) ([] : List Int).length (([] : List Int).map ic) := ⟨none, 0, rfl, Nat.le_refl _, Nat.zero_le _, fun _ => rfl, fun _ ha => nomatch ha⟩

set_option maxRecDepth 100000 in
set_option maxHeartbeats 4000000 in
theorem alive_any (w : World) : Calls Try.prog 11 #[] w fun e w' => e = .returned (.bool true) ∧ Below w.heap.size w w' := by
  obtain ⟨w1, hw1⟩ : ∃ w1, w.alloc (.cells #[.int .i64 1, .int .i64 0, .int .i64 0, .string ⟨#[]⟩, .slice none 0 0] 26) = w1 := ⟨_, rfl⟩
  have hb1 : Below w.heap.size w w1 := by rw [← hw1]; exact below_alloc _ _
  have b1 : Bx w1 w.heap.size #[.int .i64 1, .int .i64 0, .int .i64 0, .string ⟨#[]⟩, .slice none 0 0] 26 := by rw [← hw1]; exact bx_new rfl
  have hsz : w.heap.size < w1.heap.size := by rw [← hw1]; simp
  have HW := Lib.hid hw1
  have HB1 := Lib.hid hb1
  have B1 := Lib.hid b1
  have c0 := cell_of_box b1 0 rfl
  have c1 := cell_of_box b1 1 rfl
  have c2 := cell_of_box b1 2 rfl
  have c3 := cell_of_box b1 3 rfl
  have c4 := cell_of_box b1 4 rfl
  clear hw1 hb1 b1
  go_enter Try.func11, Try.ntmps11
  go_wp2_with fail
  rw [HW.out]
  refine wp_region_flow (by kernel_rfl) 4 [(1, ⟨fun v => v = .agg #[.int .i64 1, .int .i64 5, .string ⟨#[]⟩], fun _ _ _ _ => True⟩), (3, ⟨fun v => ∃ a k, v = .agg #[.int .i64 1, .int .i64 0, .int .i64 0, .string ⟨#[]⟩, .slice a 1 k], fun v _ _ w' => ∃ a k, v = .agg #[.int .i64 1, .int .i64 0, .int .i64 0, .string ⟨#[]⟩, .slice a 1 k] ∧ OwnP w' w1.heap.size (.slice a 1 k) [pA1]⟩)] (by kernel_rfl) ?_ ?_ ?_
  · intro x hx
    simp only [List.mem_cons, List.not_mem_nil, or_false] at hx
    rcases hx with rfl | rfl
    · exact ⟨_, rfl⟩
    · exact ⟨_, none, 0, rfl⟩
  · intro x hx v lo hi w w' h hb
    simp only [List.mem_cons, List.not_mem_nil, or_false] at hx
    rcases hx with rfl | rfl
    · exact trivial
    · obtain ⟨a, k, rfl, ho⟩ := h
      exact ⟨a, k, rfl, own_later ho hb⟩
  · intro lo hi
    have kc0 := cell_regrown c0
    have kc1 := cell_regrown c1
    have kc2 := cell_regrown c2
    have kc3 := cell_regrown c3
    have kc4 := cell_regrown c4
    refine flowW_plain rfl ?_
    go_big_quiet_step (fail)
    refine wpQuiet_nil ?_
    refine flowW_call rfl rfl ?_ ?_
    · intro W hW hF K hK
      clear kc0 kc1 kc2 kc3 kc4
      go_wp2_with fail
      refine (num_any 5 _).mono ?_
      rintro e wq ⟨rfl, hbq⟩
      go_wp2_with fail
      exact hK _ _ rfl trivial hbq
    rintro v rfl K hK
    go_simp
    refine hK _ ?_
    clear hK K
    refine flowW_plain rfl ?_
    go_big_quiet_step (fail)
    refine wpQuiet_nil ?_
    refine flowW_call rfl rfl ?_ ?_
    · intro W hW hF K hK
      clear kc0 kc1 kc2 kc3 kc4
      go_wp2_with fail
      refine (write_o (rd_nilP _) (rd_nilI _) (by decide) alive_w1).mono ?_
      rintro e w2 ⟨a, k, rfl, ho, hb2⟩
      go_wp2_with fail
      exact hK _ _ ⟨a, k, rfl⟩ ⟨a, k, rfl, own_monoP ho hW.size⟩ hb2
    rintro v ⟨a3, k3, rfl⟩ K hK
    go_simp
    refine hK _ ?_
    clear hK K
    refine flowW_end fun wz hwz hF hD => ?_
    clear kc0 kc1 kc2 kc3 kc4
    simp only [List.drop_succ_cons, List.drop_zero]
    obtain ⟨a, k, he, ho⟩ := hF 3
    cases he
    have bz := bx_later hwz B1.out
    have f0 := frozen_of_box bz 0
    have f1 := frozen_of_box bz 1
    have f2 := frozen_of_box bz 2
    have f3 := frozen_of_box bz 3
    have f4 := frozen_of_box bz 4
    have d0 := cell_of_box bz 0 rfl
    have d1 := cell_of_box bz 1 rfl
    have d2 := cell_of_box bz 2 rfl
    have d3 := cell_of_box bz 3 rfl
    have d4 := cell_of_box bz 4 rfl
    have BZ := Lib.hid bz
    have HO := Lib.hid ho
    have HBZ := Lib.hid (below_then HB1.out hwz)
    clear bz hF ho hwz c0 c1 c2 c3 c4 hsz
    go_wp2_with fail
    have b2 := bx_set5 (a' := .int .i64 1) (b' := .int .i64 0) (c' := .int .i64 0) (d' := .string ⟨#[]⟩) (e' := .slice a3 1 k3) BZ.out
    have o2 := own_set5 (a' := .int .i64 1) (b' := .int .i64 0) (c' := .int .i64 0) (d' := .string ⟨#[]⟩) (e' := .slice a3 1 k3) BZ.out HO.out rfl
    have hb2 := below_set5 HBZ.out (Nat.le_refl _) (.int .i64 1) (.int .i64 0) (.int .i64 0) (.string ⟨#[]⟩) (.slice a3 1 k3)
    have hsz := (Array.getElem?_eq_some_iff.1 b2).1
    unfold set5 at b2 o2 hb2 hsz
    clear f0 f1 f2 f3 f4 d0 d1 d2 d3 d4
    generalize (((((wz.setCell ⟨w.heap.size, 0, none⟩ (.int .i64 1)).setCell ⟨w.heap.size, 1, none⟩ (.int .i64 0)).setCell ⟨w.heap.size, 2, none⟩ (.int .i64 0)).setCell ⟨w.heap.size, 3, none⟩ (.string ⟨#[]⟩)).setCell ⟨w.heap.size, 4, none⟩ (.slice a3 1 k3)) = w2 at *
    have B2 := Lib.hid b2
    have O2 := Lib.hid o2
    have HB2 := Lib.hid hb2
    have c0 := cell_of_box b2 0 rfl
    have c1 := cell_of_box b2 1 rfl
    have c2 := cell_of_box b2 2 rfl
    have c3 := cell_of_box b2 3 rfl
    have c4 := cell_of_box b2 4 rfl
    clear b2 o2 hb2
    refine wp_region_flow (by kernel_rfl) 4 [(1, ⟨fun v => v = .agg #[.int .i64 1, .int .i64 7, .string ⟨#[]⟩], fun _ _ _ _ => True⟩), (3, ⟨fun v => ∃ a k, v = .agg #[.int .i64 1, .int .i64 0, .int .i64 0, .string ⟨#[]⟩, .slice a 2 k], fun v _ _ w' => ∃ a k, v = .agg #[.int .i64 1, .int .i64 0, .int .i64 0, .string ⟨#[]⟩, .slice a 2 k] ∧ OwnP w' w2.heap.size (.slice a 2 k) [pA1, pA2]⟩)] (by kernel_rfl) ?_ ?_ ?_
    · intro x hx
      simp only [List.mem_cons, List.not_mem_nil, or_false] at hx
      rcases hx with rfl | rfl
      · exact ⟨_, rfl⟩
      · exact ⟨_, none, 0, rfl⟩
    · intro x hx v lo hi w w' h hb
      simp only [List.mem_cons, List.not_mem_nil, or_false] at hx
      rcases hx with rfl | rfl
      · exact trivial
      · obtain ⟨a, k, rfl, ho⟩ := h
        exact ⟨a, k, rfl, own_later ho hb⟩
    · intro lo hi
      have kc0 := cell_regrown c0
      have kc1 := cell_regrown c1
      have kc2 := cell_regrown c2
      have kc3 := cell_regrown c3
      have kc4 := cell_regrown c4
      refine flowW_plain rfl ?_
      go_big_quiet_step (fail)
      refine wpQuiet_nil ?_
      refine flowW_call rfl rfl ?_ ?_
      · intro W hW hF K hK
        clear kc0 kc1 kc2 kc3 kc4
        go_wp2_with fail
        refine (num_any 7 _).mono ?_
        rintro e wq ⟨rfl, hbq⟩
        go_wp2_with fail
        exact hK _ _ rfl trivial hbq
      rintro v rfl K hK
      go_simp
      refine hK _ ?_
      clear hK K
      refine flowW_plain rfl ?_
      go_big_quiet_step (fail)
      refine wpQuiet_nil ?_
      refine flowW_call rfl rfl ?_ ?_
      · intro W hW hF K hK
        clear kc0 kc1 kc2 kc3 kc4
        go_wp2_with fail
        refine (write_o ((Rd.of_own O2.out).later hW) (rd_nilI _) (by decide) alive_w2).mono ?_
        rintro e w2 ⟨a, k, rfl, ho, hb2⟩
        go_wp2_with fail
        exact hK _ _ ⟨a, k, rfl⟩ ⟨a, k, rfl, own_monoP ho hW.size⟩ hb2
      rintro v ⟨a5, k5, rfl⟩ K hK
      go_simp
      refine hK _ ?_
      clear hK K
      refine flowW_end fun wz hwz hF hD => ?_
      clear kc0 kc1 kc2 kc3 kc4
      simp only [List.drop_succ_cons, List.drop_zero]
      obtain ⟨a, k, he, ho⟩ := hF 3
      cases he
      have bz := bx_later hwz B2.out
      have f0 := frozen_of_box bz 0
      have f1 := frozen_of_box bz 1
      have f2 := frozen_of_box bz 2
      have f3 := frozen_of_box bz 3
      have f4 := frozen_of_box bz 4
      have d0 := cell_of_box bz 0 rfl
      have d1 := cell_of_box bz 1 rfl
      have d2 := cell_of_box bz 2 rfl
      have d3 := cell_of_box bz 3 rfl
      have d4 := cell_of_box bz 4 rfl
      have BZ := Lib.hid bz
      have HO := Lib.hid ho
      have HBZ := Lib.hid (below_then HB2.out hwz)
      clear bz hF ho hwz c0 c1 c2 c3 c4 hsz
      go_wp2_with fail
      have b3 := bx_set5 (a' := .int .i64 1) (b' := .int .i64 0) (c' := .int .i64 0) (d' := .string ⟨#[]⟩) (e' := .slice a5 2 k5) BZ.out
      have o3 := own_set5 (a' := .int .i64 1) (b' := .int .i64 0) (c' := .int .i64 0) (d' := .string ⟨#[]⟩) (e' := .slice a5 2 k5) BZ.out HO.out rfl
      have hb3 := below_set5 HBZ.out (Nat.le_refl _) (.int .i64 1) (.int .i64 0) (.int .i64 0) (.string ⟨#[]⟩) (.slice a5 2 k5)
      have hsz := (Array.getElem?_eq_some_iff.1 b3).1
      unfold set5 at b3 o3 hb3 hsz
      clear f0 f1 f2 f3 f4 d0 d1 d2 d3 d4
      generalize (((((wz.setCell ⟨w.heap.size, 0, none⟩ (.int .i64 1)).setCell ⟨w.heap.size, 1, none⟩ (.int .i64 0)).setCell ⟨w.heap.size, 2, none⟩ (.int .i64 0)).setCell ⟨w.heap.size, 3, none⟩ (.string ⟨#[]⟩)).setCell ⟨w.heap.size, 4, none⟩ (.slice a5 2 k5)) = w3 at *
      have B3 := Lib.hid b3
      have O3 := Lib.hid o3
      have HB3 := Lib.hid hb3
      have c0 := cell_of_box b3 0 rfl
      have c1 := cell_of_box b3 1 rfl
      have c2 := cell_of_box b3 2 rfl
      have c3 := cell_of_box b3 3 rfl
      have c4 := cell_of_box b3 4 rfl
      clear b3 o3 hb3
      refine wp_region_flow (by kernel_rfl) 6 [(1, ⟨fun v => v = .agg #[.int .i64 1, .int .i64 6, .string ⟨#[]⟩], fun _ _ _ _ => True⟩), (3, ⟨fun v => ∃ g : Nat, v = .slice (some ⟨g, 0, none⟩) 1 1, fun v _ _ w' => Rd w' v ([1] : List Int).length (([1] : List Int).map ic)⟩), (4, ⟨fun v => ∃ a k, v = .agg #[.int .i64 1, .int .i64 0, .int .i64 0, .string ⟨#[]⟩, .slice a 2 k], fun v _ _ w' => ∃ a k, v = .agg #[.int .i64 1, .int .i64 0, .int .i64 0, .string ⟨#[]⟩, .slice a 2 k] ∧ OwnP w' w3.heap.size (.slice a 2 k) [pA3, pA2]⟩), (5, ⟨fun v => ∃ g : Nat, v = .pointer (some ⟨g, 0, none⟩), fun v _ _ w' => ∃ g : Nat, v = .pointer (some ⟨g, 0, none⟩) ∧ Bx w' g #[.int .i64 0, .int .i64 0, .int .i64 0, .string ⟨#[]⟩, .slice none 0 0] 26 ∧ w3.heap.size ≤ g⟩)] (by kernel_rfl) ?_ ?_ ?_
      · intro x hx
        simp only [List.mem_cons, List.not_mem_nil, or_false] at hx
        rcases hx with rfl | rfl | rfl | rfl
        · exact ⟨_, rfl⟩
        · exact ⟨_, 0, rfl⟩
        · exact ⟨_, none, 0, rfl⟩
        · exact ⟨_, 0, rfl⟩
      · intro x hx v lo hi w w' h hb
        simp only [List.mem_cons, List.not_mem_nil, or_false] at hx
        rcases hx with rfl | rfl | rfl | rfl
        · exact trivial
        · exact Rd.later h hb
        · obtain ⟨a, k, rfl, ho⟩ := h
          exact ⟨a, k, rfl, own_later ho hb⟩
        · obtain ⟨g, rfl, h1, h2⟩ := h
          exact ⟨g, rfl, bx_later hb h1, h2⟩
      · intro lo hi
        have kc0 := cell_regrown c0
        have kc1 := cell_regrown c1
        have kc2 := cell_regrown c2
        have kc3 := cell_regrown c3
        have kc4 := cell_regrown c4
        refine flowW_plain rfl ?_
        go_big_quiet_step (fail)
        refine wpQuiet_nil ?_
        refine flowW_call rfl rfl ?_ ?_
        · intro W hW hF K hK
          clear kc0 kc1 kc2 kc3 kc4
          go_wp2_with fail
          refine (num_any 6 _).mono ?_
          rintro e wq ⟨rfl, hbq⟩
          go_wp2_with fail
          exact hK _ _ rfl trivial hbq
        rintro v rfl K hK
        go_simp
        refine hK _ ?_
        clear hK K
        refine flowW_plain rfl ?_
        go_big_quiet_step (fail)
        refine wpQuiet_nil ?_
        refine flowW_call rfl rfl ?_ ?_
        · intro W hW hF K hK
          clear kc0 kc1 kc2 kc3 kc4
          go_wp2_with fail
          exact hK _ _ ⟨_, rfl⟩ (rd_lit W #[.int .i64 1] 3 1 (by decide)) (below_alloc _ _)
        rintro v ⟨g4, rfl⟩ K hK
        go_simp
        refine hK _ ?_
        clear hK K
        refine flowW_call rfl rfl ?_ ?_
        · intro W hW hF K hK
          clear kc0 kc1 kc2 kc3 kc4
          go_wp2_with fail
          refine (write_o ((Rd.of_own O3.out).later hW) (hF 3 rfl) (by decide) alive_w3).mono ?_
          rintro e w2 ⟨a, k, rfl, ho, hb2⟩
          go_wp2_with fail
          exact hK _ _ ⟨a, k, rfl⟩ ⟨a, k, rfl, own_monoP ho hW.size⟩ hb2
        rintro v ⟨a6, k6, rfl⟩ K hK
        go_simp
        refine hK _ ?_
        clear hK K
        refine flowW_call rfl rfl ?_ ?_
        · intro W hW hF K hK
          clear kc0 kc1 kc2 kc3 kc4
          go_wp2_with fail
          exact hK _ _ ⟨_, rfl⟩ ⟨_, rfl, bx_new rfl, hW.size⟩ (below_alloc _ _)
        rintro v ⟨gd, rfl⟩ K hK
        go_simp
        refine hK _ ?_
        clear hK K
        refine flowW_end fun wz hwz hF hD => ?_
        clear kc0 kc1 kc2 kc3 kc4
        simp only [List.drop_succ_cons, List.drop_zero]
        obtain ⟨a, k, he, ho⟩ := hF 4
        cases he
        obtain ⟨g, he, bg, hg⟩ := hF 5
        cases he
        have f0 := frozen_of_box bg 0
        have f1 := frozen_of_box bg 1
        have f2 := frozen_of_box bg 2
        have f3 := frozen_of_box bg 3
        have f4 := frozen_of_box bg 4
        have d0 := cell_of_box bg 0 rfl
        have d1 := cell_of_box bg 1 rfl
        have d2 := cell_of_box bg 2 rfl
        have d3 := cell_of_box bg 3 rfl
        have d4 := cell_of_box bg 4 rfl
        have BG := Lib.hid bg
        have HO := Lib.hid ho
        have hwz' := hwz
        have HBZ := Lib.hid (below_then HB3.out hwz)
        have HWZ := Lib.hid hwz
        have hgd : w.heap.size ≤ gd := by omega
        have hgn : w.heap.size ≠ gd := by omega
        clear bg hF ho hwz hwz' c0 c1 c2 c3 c4 hsz
        go_upto_region 5 with fail
        have bc := bx_set5_other (bx_later HWZ.out B3.out) hgn (.int .i64 1) (.int .i64 0) (.int .i64 0) (.string ⟨#[]⟩) (.slice a6 2 k6)
        have oc := own_set5 (a' := .int .i64 1) (b' := .int .i64 0) (c' := .int .i64 0) (d' := .string ⟨#[]⟩) (e' := .slice a6 2 k6) BG.out (own_later O3.out HWZ.out) rfl
        have bd := bx_set5 (a' := .int .i64 1) (b' := .int .i64 0) (c' := .int .i64 0) (d' := .string ⟨#[]⟩) (e' := .slice a6 2 k6) BG.out
        have od := own_set5 (a' := .int .i64 1) (b' := .int .i64 0) (c' := .int .i64 0) (d' := .string ⟨#[]⟩) (e' := .slice a6 2 k6) BG.out HO.out rfl
        have hb4 := below_set5 HBZ.out hgd (.int .i64 1) (.int .i64 0) (.int .i64 0) (.string ⟨#[]⟩) (.slice a6 2 k6)
        unfold set5 at bc oc bd od hb4
        clear f0 f1 f2 f3 f4 d0 d1 d2 d3 d4
        generalize (((((wz.setCell ⟨gd, 0, none⟩ (.int .i64 1)).setCell ⟨gd, 1, none⟩ (.int .i64 0)).setCell ⟨gd, 2, none⟩ (.int .i64 0)).setCell ⟨gd, 3, none⟩ (.string ⟨#[]⟩)).setCell ⟨gd, 4, none⟩ (.slice a6 2 k6)) = w4 at *
        have BC := Lib.hid bc
        have OC := Lib.hid oc
        have BD := Lib.hid bd
        have OD := Lib.hid od
        have HB4 := Lib.hid hb4
        have c0 := cell_of_box bc 0 rfl
        have c1 := cell_of_box bc 1 rfl
        have c2 := cell_of_box bc 2 rfl
        have c3 := cell_of_box bc 3 rfl
        have c4 := cell_of_box bc 4 rfl
        have d0 := cell_of_box bd 0 rfl
        have d1 := cell_of_box bd 1 rfl
        have d2 := cell_of_box bd 2 rfl
        have d3 := cell_of_box bd 3 rfl
        have d4 := cell_of_box bd 4 rfl
        clear bc oc bd od hb4 hg
        go_wp2_with fail
        have hba : ∀ (o p : Obj), Below w4.heap.size w4 ((w4.alloc o).alloc p) := fun o p => below_alloc_then (below_alloc _ _)
        refine (join_p [1, 1] [2, 1] ((Rd.of_own OC.out).later (hba _ _)) ((Rd.of_own OD.out).later (hba _ _)) ((rd_ints w4 #[.int .i64 1, .int .i64 1] 3 [1, 1] _ rfl rfl (by decide)).later (below_alloc _ _)) (rd_ints _ #[.int .i64 2, .int .i64 1] 3 [2, 1] _ (by simp) rfl (by decide)) (by decide) (by decide) alive_j).mono ?_
        rintro e w5 ⟨a7, k7, rfl, hj, hb⟩
        have hb5 := below_then (hba _ _) hb
        clear hb hba c0 c1 c2 c3 c4 d0 d1 d2 d3 d4
        have BC5 := Lib.hid (bx_later hb5 BC.out)
        have BD5 := Lib.hid (bx_later hb5 BD.out)
        have PC := Lib.hid ((Rd.of_own OC.out).later hb5)
        have PD := Lib.hid ((Rd.of_own OD.out).later hb5)
        have PJ := Lib.hid hj
        have HB5 := Lib.hid (below_then HB4.out hb5)
        clear hb5 hj
        go_upto_region 6 with fail
        obtain ⟨w6, hw6⟩ : ∃ w6, w5.alloc (.cells #[.int .i64 1, .int .i64 0, .int .i64 0, .string ⟨#[]⟩, .slice a7 2 k7] 26) = w6 := ⟨_, rfl⟩
        have hb6 : Below w5.heap.size w5 w6 := by rw [← hw6]; exact below_alloc _ _
        have bj : Bx w6 w5.heap.size #[.int .i64 1, .int .i64 0, .int .i64 0, .string ⟨#[]⟩, .slice a7 2 k7] 26 := by rw [← hw6]; exact bx_new rfl
        have BC := Lib.hid (bx_later hb6 BC5.out)
        have BD := Lib.hid (bx_later hb6 BD5.out)
        have BJ := Lib.hid bj
        replace PC := Lib.hid (PC.out.later hb6)
        replace PD := Lib.hid (PD.out.later hb6)
        replace PJ := Lib.hid (PJ.out.later hb6)
        have HB6 := Lib.hid (below_then HB5.out hb6)
        have HB := Lib.hid (Below.refl w6.heap.size w6)
        have HW6 := Lib.hid hw6
        obtain ⟨gj, hgj⟩ : ∃ gj, w5.heap.size = gj := ⟨_, rfl⟩
        rw [hgj] at BJ
        rw [hw6, hgj]
        clear hw6 bj hb6 hgj
        have c0 := cell_of_box (bx_later HB.out BC.out) 0 rfl
        have c1 := cell_of_box (bx_later HB.out BC.out) 1 rfl
        have c2 := cell_of_box (bx_later HB.out BC.out) 2 rfl
        have c3 := cell_of_box (bx_later HB.out BC.out) 3 rfl
        have c4 := cell_of_box (bx_later HB.out BC.out) 4 rfl
        have d0 := cell_of_box (bx_later HB.out BD.out) 0 rfl
        have d1 := cell_of_box (bx_later HB.out BD.out) 1 rfl
        have d2 := cell_of_box (bx_later HB.out BD.out) 2 rfl
        have d3 := cell_of_box (bx_later HB.out BD.out) 3 rfl
        have d4 := cell_of_box (bx_later HB.out BD.out) 4 rfl
        have j0 := cell_of_box (bx_later HB.out BJ.out) 0 rfl
        have j1 := cell_of_box (bx_later HB.out BJ.out) 1 rfl
        have j2 := cell_of_box (bx_later HB.out BJ.out) 2 rfl
        have j3 := cell_of_box (bx_later HB.out BJ.out) 3 rfl
        have j4 := cell_of_box (bx_later HB.out BJ.out) 4 rfl
        go_wp2_with fail
        refine (values_p (PC.out.later HB.out) (by decide) alive_v1).mono ?_
        rintro e wn ⟨av, kv, rfl, hv, hb⟩
        have HV := Lib.hid hv
        clear hv
        replace HB := Lib.hid (below_then HB.out (by first | exact hb | exact below_alloc_then hb | exact below_alloc_then (below_alloc_then hb)))
        clear hb
        clear c0 c1 c2 c3 c4 d0 d1 d2 d3 d4 j0 j1 j2 j3 j4
        have c0 := cell_of_box (bx_later HB.out BC.out) 0 rfl
        have c1 := cell_of_box (bx_later HB.out BC.out) 1 rfl
        have c2 := cell_of_box (bx_later HB.out BC.out) 2 rfl
        have c3 := cell_of_box (bx_later HB.out BC.out) 3 rfl
        have c4 := cell_of_box (bx_later HB.out BC.out) 4 rfl
        have d0 := cell_of_box (bx_later HB.out BD.out) 0 rfl
        have d1 := cell_of_box (bx_later HB.out BD.out) 1 rfl
        have d2 := cell_of_box (bx_later HB.out BD.out) 2 rfl
        have d3 := cell_of_box (bx_later HB.out BD.out) 3 rfl
        have d4 := cell_of_box (bx_later HB.out BD.out) 4 rfl
        have j0 := cell_of_box (bx_later HB.out BJ.out) 0 rfl
        have j1 := cell_of_box (bx_later HB.out BJ.out) 1 rfl
        have j2 := cell_of_box (bx_later HB.out BJ.out) 2 rfl
        have j3 := cell_of_box (bx_later HB.out BJ.out) 3 rfl
        have j4 := cell_of_box (bx_later HB.out BJ.out) 4 rfl
        go_wp2_with fail
        refine (num_any 5 _).mono ?_
        rintro e wn ⟨rfl, hb⟩
        try replace HV := Lib.hid (HV.out.later hb)
        replace HB := Lib.hid (below_then HB.out (by first | exact hb | exact below_alloc_then hb | exact below_alloc_then (below_alloc_then hb)))
        clear hb
        clear c0 c1 c2 c3 c4 d0 d1 d2 d3 d4 j0 j1 j2 j3 j4
        have c0 := cell_of_box (bx_later HB.out BC.out) 0 rfl
        have c1 := cell_of_box (bx_later HB.out BC.out) 1 rfl
        have c2 := cell_of_box (bx_later HB.out BC.out) 2 rfl
        have c3 := cell_of_box (bx_later HB.out BC.out) 3 rfl
        have c4 := cell_of_box (bx_later HB.out BC.out) 4 rfl
        have d0 := cell_of_box (bx_later HB.out BD.out) 0 rfl
        have d1 := cell_of_box (bx_later HB.out BD.out) 1 rfl
        have d2 := cell_of_box (bx_later HB.out BD.out) 2 rfl
        have d3 := cell_of_box (bx_later HB.out BD.out) 3 rfl
        have d4 := cell_of_box (bx_later HB.out BD.out) 4 rfl
        have j0 := cell_of_box (bx_later HB.out BJ.out) 0 rfl
        have j1 := cell_of_box (bx_later HB.out BJ.out) 1 rfl
        have j2 := cell_of_box (bx_later HB.out BJ.out) 2 rfl
        have j3 := cell_of_box (bx_later HB.out BJ.out) 3 rfl
        have j4 := cell_of_box (bx_later HB.out BJ.out) 4 rfl
        go_wp2_with fail
        refine (num_any 7 _).mono ?_
        rintro e wn ⟨rfl, hb⟩
        try replace HV := Lib.hid (HV.out.later hb)
        replace HB := Lib.hid (below_then HB.out (by first | exact hb | exact below_alloc_then hb | exact below_alloc_then (below_alloc_then hb)))
        clear hb
        clear c0 c1 c2 c3 c4 d0 d1 d2 d3 d4 j0 j1 j2 j3 j4
        have c0 := cell_of_box (bx_later HB.out BC.out) 0 rfl
        have c1 := cell_of_box (bx_later HB.out BC.out) 1 rfl
        have c2 := cell_of_box (bx_later HB.out BC.out) 2 rfl
        have c3 := cell_of_box (bx_later HB.out BC.out) 3 rfl
        have c4 := cell_of_box (bx_later HB.out BC.out) 4 rfl
        have d0 := cell_of_box (bx_later HB.out BD.out) 0 rfl
        have d1 := cell_of_box (bx_later HB.out BD.out) 1 rfl
        have d2 := cell_of_box (bx_later HB.out BD.out) 2 rfl
        have d3 := cell_of_box (bx_later HB.out BD.out) 3 rfl
        have d4 := cell_of_box (bx_later HB.out BD.out) 4 rfl
        have j0 := cell_of_box (bx_later HB.out BJ.out) 0 rfl
        have j1 := cell_of_box (bx_later HB.out BJ.out) 1 rfl
        have j2 := cell_of_box (bx_later HB.out BJ.out) 2 rfl
        have j3 := cell_of_box (bx_later HB.out BJ.out) 3 rfl
        have j4 := cell_of_box (bx_later HB.out BJ.out) 4 rfl
        go_wp2_with fail
        refine (refVals_any _ _ [numV 5, numV 7] _ (HV.out.later (below_alloc _ _)) (rd_vals _ #[.int .i64 1, .int .i64 5, .string ⟨#[]⟩, .int .i64 1, .int .i64 7, .string ⟨#[]⟩] 23 [numV 5, numV 7] _ rfl rfl (by decide)) (by decide)).mono ?_
        rintro e wn ⟨rfl, hb⟩
        clear HV
        replace HB := Lib.hid (below_then HB.out (by first | exact hb | exact below_alloc_then hb | exact below_alloc_then (below_alloc_then hb)))
        clear hb
        clear c0 c1 c2 c3 c4 d0 d1 d2 d3 d4 j0 j1 j2 j3 j4
        have c0 := cell_of_box (bx_later HB.out BC.out) 0 rfl
        have c1 := cell_of_box (bx_later HB.out BC.out) 1 rfl
        have c2 := cell_of_box (bx_later HB.out BC.out) 2 rfl
        have c3 := cell_of_box (bx_later HB.out BC.out) 3 rfl
        have c4 := cell_of_box (bx_later HB.out BC.out) 4 rfl
        have d0 := cell_of_box (bx_later HB.out BD.out) 0 rfl
        have d1 := cell_of_box (bx_later HB.out BD.out) 1 rfl
        have d2 := cell_of_box (bx_later HB.out BD.out) 2 rfl
        have d3 := cell_of_box (bx_later HB.out BD.out) 3 rfl
        have d4 := cell_of_box (bx_later HB.out BD.out) 4 rfl
        have j0 := cell_of_box (bx_later HB.out BJ.out) 0 rfl
        have j1 := cell_of_box (bx_later HB.out BJ.out) 1 rfl
        have j2 := cell_of_box (bx_later HB.out BJ.out) 2 rfl
        have j3 := cell_of_box (bx_later HB.out BJ.out) 3 rfl
        have j4 := cell_of_box (bx_later HB.out BJ.out) 4 rfl
        go_wp2_with fail
        refine (values_p (PD.out.later HB.out) (by decide) alive_v2).mono ?_
        rintro e wn ⟨av, kv, rfl, hv, hb⟩
        have HV := Lib.hid hv
        clear hv
        replace HB := Lib.hid (below_then HB.out (by first | exact hb | exact below_alloc_then hb | exact below_alloc_then (below_alloc_then hb)))
        clear hb
        clear c0 c1 c2 c3 c4 d0 d1 d2 d3 d4 j0 j1 j2 j3 j4
        have c0 := cell_of_box (bx_later HB.out BC.out) 0 rfl
        have c1 := cell_of_box (bx_later HB.out BC.out) 1 rfl
        have c2 := cell_of_box (bx_later HB.out BC.out) 2 rfl
        have c3 := cell_of_box (bx_later HB.out BC.out) 3 rfl
        have c4 := cell_of_box (bx_later HB.out BC.out) 4 rfl
        have d0 := cell_of_box (bx_later HB.out BD.out) 0 rfl
        have d1 := cell_of_box (bx_later HB.out BD.out) 1 rfl
        have d2 := cell_of_box (bx_later HB.out BD.out) 2 rfl
        have d3 := cell_of_box (bx_later HB.out BD.out) 3 rfl
        have d4 := cell_of_box (bx_later HB.out BD.out) 4 rfl
        have j0 := cell_of_box (bx_later HB.out BJ.out) 0 rfl
        have j1 := cell_of_box (bx_later HB.out BJ.out) 1 rfl
        have j2 := cell_of_box (bx_later HB.out BJ.out) 2 rfl
        have j3 := cell_of_box (bx_later HB.out BJ.out) 3 rfl
        have j4 := cell_of_box (bx_later HB.out BJ.out) 4 rfl
        go_wp2_with fail
        refine (num_any 6 _).mono ?_
        rintro e wn ⟨rfl, hb⟩
        try replace HV := Lib.hid (HV.out.later hb)
        replace HB := Lib.hid (below_then HB.out (by first | exact hb | exact below_alloc_then hb | exact below_alloc_then (below_alloc_then hb)))
        clear hb
        clear c0 c1 c2 c3 c4 d0 d1 d2 d3 d4 j0 j1 j2 j3 j4
        have c0 := cell_of_box (bx_later HB.out BC.out) 0 rfl
        have c1 := cell_of_box (bx_later HB.out BC.out) 1 rfl
        have c2 := cell_of_box (bx_later HB.out BC.out) 2 rfl
        have c3 := cell_of_box (bx_later HB.out BC.out) 3 rfl
        have c4 := cell_of_box (bx_later HB.out BC.out) 4 rfl
        have d0 := cell_of_box (bx_later HB.out BD.out) 0 rfl
        have d1 := cell_of_box (bx_later HB.out BD.out) 1 rfl
        have d2 := cell_of_box (bx_later HB.out BD.out) 2 rfl
        have d3 := cell_of_box (bx_later HB.out BD.out) 3 rfl
        have d4 := cell_of_box (bx_later HB.out BD.out) 4 rfl
        have j0 := cell_of_box (bx_later HB.out BJ.out) 0 rfl
        have j1 := cell_of_box (bx_later HB.out BJ.out) 1 rfl
        have j2 := cell_of_box (bx_later HB.out BJ.out) 2 rfl
        have j3 := cell_of_box (bx_later HB.out BJ.out) 3 rfl
        have j4 := cell_of_box (bx_later HB.out BJ.out) 4 rfl
        go_wp2_with fail
        refine (num_any 7 _).mono ?_
        rintro e wn ⟨rfl, hb⟩
        try replace HV := Lib.hid (HV.out.later hb)
        replace HB := Lib.hid (below_then HB.out (by first | exact hb | exact below_alloc_then hb | exact below_alloc_then (below_alloc_then hb)))
        clear hb
        clear c0 c1 c2 c3 c4 d0 d1 d2 d3 d4 j0 j1 j2 j3 j4
        have c0 := cell_of_box (bx_later HB.out BC.out) 0 rfl
        have c1 := cell_of_box (bx_later HB.out BC.out) 1 rfl
        have c2 := cell_of_box (bx_later HB.out BC.out) 2 rfl
        have c3 := cell_of_box (bx_later HB.out BC.out) 3 rfl
        have c4 := cell_of_box (bx_later HB.out BC.out) 4 rfl
        have d0 := cell_of_box (bx_later HB.out BD.out) 0 rfl
        have d1 := cell_of_box (bx_later HB.out BD.out) 1 rfl
        have d2 := cell_of_box (bx_later HB.out BD.out) 2 rfl
        have d3 := cell_of_box (bx_later HB.out BD.out) 3 rfl
        have d4 := cell_of_box (bx_later HB.out BD.out) 4 rfl
        have j0 := cell_of_box (bx_later HB.out BJ.out) 0 rfl
        have j1 := cell_of_box (bx_later HB.out BJ.out) 1 rfl
        have j2 := cell_of_box (bx_later HB.out BJ.out) 2 rfl
        have j3 := cell_of_box (bx_later HB.out BJ.out) 3 rfl
        have j4 := cell_of_box (bx_later HB.out BJ.out) 4 rfl
        go_wp2_with fail
        refine (refVals_any _ _ [numV 6, numV 7] _ (HV.out.later (below_alloc _ _)) (rd_vals _ #[.int .i64 1, .int .i64 6, .string ⟨#[]⟩, .int .i64 1, .int .i64 7, .string ⟨#[]⟩] 23 [numV 6, numV 7] _ rfl rfl (by decide)) (by decide)).mono ?_
        rintro e wn ⟨rfl, hb⟩
        clear HV
        replace HB := Lib.hid (below_then HB.out (by first | exact hb | exact below_alloc_then hb | exact below_alloc_then (below_alloc_then hb)))
        clear hb
        clear c0 c1 c2 c3 c4 d0 d1 d2 d3 d4 j0 j1 j2 j3 j4
        have c0 := cell_of_box (bx_later HB.out BC.out) 0 rfl
        have c1 := cell_of_box (bx_later HB.out BC.out) 1 rfl
        have c2 := cell_of_box (bx_later HB.out BC.out) 2 rfl
        have c3 := cell_of_box (bx_later HB.out BC.out) 3 rfl
        have c4 := cell_of_box (bx_later HB.out BC.out) 4 rfl
        have d0 := cell_of_box (bx_later HB.out BD.out) 0 rfl
        have d1 := cell_of_box (bx_later HB.out BD.out) 1 rfl
        have d2 := cell_of_box (bx_later HB.out BD.out) 2 rfl
        have d3 := cell_of_box (bx_later HB.out BD.out) 3 rfl
        have d4 := cell_of_box (bx_later HB.out BD.out) 4 rfl
        have j0 := cell_of_box (bx_later HB.out BJ.out) 0 rfl
        have j1 := cell_of_box (bx_later HB.out BJ.out) 1 rfl
        have j2 := cell_of_box (bx_later HB.out BJ.out) 2 rfl
        have j3 := cell_of_box (bx_later HB.out BJ.out) 3 rfl
        have j4 := cell_of_box (bx_later HB.out BJ.out) 4 rfl
        go_wp2_with fail
        refine (show_p (PC.out.later HB.out) (by decide) alive_s).mono ?_
        rintro e wn ⟨rfl, hb⟩
        replace HB := Lib.hid (below_then HB.out (by first | exact hb | exact below_alloc_then hb | exact below_alloc_then (below_alloc_then hb)))
        clear hb
        clear c0 c1 c2 c3 c4 d0 d1 d2 d3 d4 j0 j1 j2 j3 j4
        have c0 := cell_of_box (bx_later HB.out BC.out) 0 rfl
        have c1 := cell_of_box (bx_later HB.out BC.out) 1 rfl
        have c2 := cell_of_box (bx_later HB.out BC.out) 2 rfl
        have c3 := cell_of_box (bx_later HB.out BC.out) 3 rfl
        have c4 := cell_of_box (bx_later HB.out BC.out) 4 rfl
        have d0 := cell_of_box (bx_later HB.out BD.out) 0 rfl
        have d1 := cell_of_box (bx_later HB.out BD.out) 1 rfl
        have d2 := cell_of_box (bx_later HB.out BD.out) 2 rfl
        have d3 := cell_of_box (bx_later HB.out BD.out) 3 rfl
        have d4 := cell_of_box (bx_later HB.out BD.out) 4 rfl
        have j0 := cell_of_box (bx_later HB.out BJ.out) 0 rfl
        have j1 := cell_of_box (bx_later HB.out BJ.out) 1 rfl
        have j2 := cell_of_box (bx_later HB.out BJ.out) 2 rfl
        have j3 := cell_of_box (bx_later HB.out BJ.out) 3 rfl
        have j4 := cell_of_box (bx_later HB.out BJ.out) 4 rfl
        go_wp2_with fail
        refine (num_any 7 _).mono ?_
        rintro e wn ⟨rfl, hb⟩
        try replace HV := Lib.hid (HV.out.later hb)
        replace HB := Lib.hid (below_then HB.out (by first | exact hb | exact below_alloc_then hb | exact below_alloc_then (below_alloc_then hb)))
        clear hb
        clear c0 c1 c2 c3 c4 d0 d1 d2 d3 d4 j0 j1 j2 j3 j4
        have c0 := cell_of_box (bx_later HB.out BC.out) 0 rfl
        have c1 := cell_of_box (bx_later HB.out BC.out) 1 rfl
        have c2 := cell_of_box (bx_later HB.out BC.out) 2 rfl
        have c3 := cell_of_box (bx_later HB.out BC.out) 3 rfl
        have c4 := cell_of_box (bx_later HB.out BC.out) 4 rfl
        have d0 := cell_of_box (bx_later HB.out BD.out) 0 rfl
        have d1 := cell_of_box (bx_later HB.out BD.out) 1 rfl
        have d2 := cell_of_box (bx_later HB.out BD.out) 2 rfl
        have d3 := cell_of_box (bx_later HB.out BD.out) 3 rfl
        have d4 := cell_of_box (bx_later HB.out BD.out) 4 rfl
        have j0 := cell_of_box (bx_later HB.out BJ.out) 0 rfl
        have j1 := cell_of_box (bx_later HB.out BJ.out) 1 rfl
        have j2 := cell_of_box (bx_later HB.out BJ.out) 2 rfl
        have j3 := cell_of_box (bx_later HB.out BJ.out) 3 rfl
        have j4 := cell_of_box (bx_later HB.out BJ.out) 4 rfl
        go_wp2_with fail
        refine (show_p (rd_nilP _) (by decide) alive_s0).mono ?_
        rintro e wn ⟨rfl, hb⟩
        replace HB := Lib.hid (below_then HB.out (by first | exact hb | exact below_alloc_then hb | exact below_alloc_then (below_alloc_then hb)))
        clear hb
        clear c0 c1 c2 c3 c4 d0 d1 d2 d3 d4 j0 j1 j2 j3 j4
        have c0 := cell_of_box (bx_later HB.out BC.out) 0 rfl
        have c1 := cell_of_box (bx_later HB.out BC.out) 1 rfl
        have c2 := cell_of_box (bx_later HB.out BC.out) 2 rfl
        have c3 := cell_of_box (bx_later HB.out BC.out) 3 rfl
        have c4 := cell_of_box (bx_later HB.out BC.out) 4 rfl
        have d0 := cell_of_box (bx_later HB.out BD.out) 0 rfl
        have d1 := cell_of_box (bx_later HB.out BD.out) 1 rfl
        have d2 := cell_of_box (bx_later HB.out BD.out) 2 rfl
        have d3 := cell_of_box (bx_later HB.out BD.out) 3 rfl
        have d4 := cell_of_box (bx_later HB.out BD.out) 4 rfl
        have j0 := cell_of_box (bx_later HB.out BJ.out) 0 rfl
        have j1 := cell_of_box (bx_later HB.out BJ.out) 1 rfl
        have j2 := cell_of_box (bx_later HB.out BJ.out) 2 rfl
        have j3 := cell_of_box (bx_later HB.out BJ.out) 3 rfl
        have j4 := cell_of_box (bx_later HB.out BJ.out) 4 rfl
        go_wp2_with fail
        refine (right_any 1 ⟨0, 0, ⟨#[]⟩⟩ _ _ _ (PD.out.later HB.out) (by decide)).mono ?_
        rintro e wn ⟨bq, rfl, hq, hb⟩
        obtain rfl : bq = true := hq.2 ⟨rfl, rfl, alive_r⟩
        clear hq
        replace HB := Lib.hid (below_then HB.out (by first | exact hb | exact below_alloc_then hb | exact below_alloc_then (below_alloc_then hb)))
        clear hb
        clear c0 c1 c2 c3 c4 d0 d1 d2 d3 d4 j0 j1 j2 j3 j4
        have c0 := cell_of_box (bx_later HB.out BC.out) 0 rfl
        have c1 := cell_of_box (bx_later HB.out BC.out) 1 rfl
        have c2 := cell_of_box (bx_later HB.out BC.out) 2 rfl
        have c3 := cell_of_box (bx_later HB.out BC.out) 3 rfl
        have c4 := cell_of_box (bx_later HB.out BC.out) 4 rfl
        have d0 := cell_of_box (bx_later HB.out BD.out) 0 rfl
        have d1 := cell_of_box (bx_later HB.out BD.out) 1 rfl
        have d2 := cell_of_box (bx_later HB.out BD.out) 2 rfl
        have d3 := cell_of_box (bx_later HB.out BD.out) 3 rfl
        have d4 := cell_of_box (bx_later HB.out BD.out) 4 rfl
        have j0 := cell_of_box (bx_later HB.out BJ.out) 0 rfl
        have j1 := cell_of_box (bx_later HB.out BJ.out) 1 rfl
        have j2 := cell_of_box (bx_later HB.out BJ.out) 2 rfl
        have j3 := cell_of_box (bx_later HB.out BJ.out) 3 rfl
        have j4 := cell_of_box (bx_later HB.out BJ.out) 4 rfl
        go_wp2_with fail
        refine (right_any 0 ⟨0, 0, ⟨#[]⟩⟩ _ _ _ (rd_nilP _) (by decide)).mono ?_
        rintro e wn ⟨bq, rfl, hq, hb⟩
        obtain rfl : bq = false := not_true'.2 fun h => by have := (hq.1 h).kind; cases this
        clear hq
        replace HB := Lib.hid (below_then HB.out (by first | exact hb | exact below_alloc_then hb | exact below_alloc_then (below_alloc_then hb)))
        clear hb
        clear c0 c1 c2 c3 c4 d0 d1 d2 d3 d4 j0 j1 j2 j3 j4
        have c0 := cell_of_box (bx_later HB.out BC.out) 0 rfl
        have c1 := cell_of_box (bx_later HB.out BC.out) 1 rfl
        have c2 := cell_of_box (bx_later HB.out BC.out) 2 rfl
        have c3 := cell_of_box (bx_later HB.out BC.out) 3 rfl
        have c4 := cell_of_box (bx_later HB.out BC.out) 4 rfl
        have d0 := cell_of_box (bx_later HB.out BD.out) 0 rfl
        have d1 := cell_of_box (bx_later HB.out BD.out) 1 rfl
        have d2 := cell_of_box (bx_later HB.out BD.out) 2 rfl
        have d3 := cell_of_box (bx_later HB.out BD.out) 3 rfl
        have d4 := cell_of_box (bx_later HB.out BD.out) 4 rfl
        have j0 := cell_of_box (bx_later HB.out BJ.out) 0 rfl
        have j1 := cell_of_box (bx_later HB.out BJ.out) 1 rfl
        have j2 := cell_of_box (bx_later HB.out BJ.out) 2 rfl
        have j3 := cell_of_box (bx_later HB.out BJ.out) 3 rfl
        have j4 := cell_of_box (bx_later HB.out BJ.out) 4 rfl
        go_wp2_with fail
        refine (same_p [pA3, pA2] (PJ.out.later HB.out) (PD.out.later HB.out) (by decide)).mono ?_
        rintro e wn ⟨rfl, hb⟩
        replace HB := Lib.hid (below_then HB.out (by first | exact hb | exact below_alloc_then hb | exact below_alloc_then (below_alloc_then hb)))
        clear hb
        clear c0 c1 c2 c3 c4 d0 d1 d2 d3 d4 j0 j1 j2 j3 j4
        have c0 := cell_of_box (bx_later HB.out BC.out) 0 rfl
        have c1 := cell_of_box (bx_later HB.out BC.out) 1 rfl
        have c2 := cell_of_box (bx_later HB.out BC.out) 2 rfl
        have c3 := cell_of_box (bx_later HB.out BC.out) 3 rfl
        have c4 := cell_of_box (bx_later HB.out BC.out) 4 rfl
        have d0 := cell_of_box (bx_later HB.out BD.out) 0 rfl
        have d1 := cell_of_box (bx_later HB.out BD.out) 1 rfl
        have d2 := cell_of_box (bx_later HB.out BD.out) 2 rfl
        have d3 := cell_of_box (bx_later HB.out BD.out) 3 rfl
        have d4 := cell_of_box (bx_later HB.out BD.out) 4 rfl
        have j0 := cell_of_box (bx_later HB.out BJ.out) 0 rfl
        have j1 := cell_of_box (bx_later HB.out BJ.out) 1 rfl
        have j2 := cell_of_box (bx_later HB.out BJ.out) 2 rfl
        have j3 := cell_of_box (bx_later HB.out BJ.out) 3 rfl
        have j4 := cell_of_box (bx_later HB.out BJ.out) 4 rfl
        go_wp2_with fail
        go_ret
        exact ⟨rfl, below_then HB6.out HB.out⟩
end Go.Proofs.Ytagbaejgjhmokaa
