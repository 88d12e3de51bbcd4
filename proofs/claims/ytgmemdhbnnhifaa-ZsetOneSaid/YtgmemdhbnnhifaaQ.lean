/-
  Layer 3 (row): row.Less, row.Same.
-/
import Derived.Test.YtgmemdhbnnhifaaS
namespace Go.Proofs.Ytgmemdhbnnhifaa
open Go.RowKit Go.Sort Go.BigFrame

set_option maxRecDepth 100000 in
set_option maxHeartbeats 400000 in
theorem lessR_any (va vb : Value) (l m : List Val) (w : World) (ha : Rd w va l.length (rowCs l)) (hb : Rd w vb m.length (rowCs m)) :
    Calls Try.prog 26 #[va, vb] w fun e w' => e = .returned (.bool (lessR l m)) ∧ Below w.heap.size w w' := by
  obtain ⟨aa, ca, rfl, hna, hma, _, _⟩ := id ha
  obtain ⟨ab, cb, rfl, hnb, hmb, _, _⟩ := id hb
  unfold maxLen at hma hmb
  have HA := Lib.hid ha
  have HB := Lib.hid hb
  clear ha hb
  obtain ⟨hk, hk', htk, hne⟩ := lessR_apart l m
  obtain ⟨k, hkd⟩ : ∃ k, apartR l m = k := ⟨_, rfl⟩
  rw [hkd] at hk hk' htk hne
  have HK := Lib.hid hkd
  clear hkd
  have cApart : ∀ (W : World) (o : Obj), Calls Try.prog 40 #[.slice (some ⟨w.heap.size, 0, none⟩) 2 2] (w.alloc (.cells #[.slice aa l.length ca, .slice ab m.length cb] 24)) fun e w' => e = .returned (.int .i64 k) ∧ Below w.heap.size w w' := by
    intro _ _
    have h := apart_any (.slice (some ⟨w.heap.size, 0, none⟩) 2 2) (.slice aa l.length ca) (.slice ab m.length cb) l m (w.alloc (.cells #[.slice aa l.length ca, .slice ab m.length cb] 24)) (HA.out.later (below_alloc _ _)) (HB.out.later (below_alloc _ _)) (rd_lit _ _ _ 2 (by decide))
    refine h.mono ?_
    rintro e w1 ⟨rfl, hb⟩
    exact ⟨by rw [HK.out], below_alloc_then hb⟩
  by_cases h1 : k = l.length ∨ k = m.length
  · have HS : Hid (lessR l m = decide (l.length < m.length)) := (lessR_short htk h1 hk hk').1
    by_cases h2 : k = l.length
    · have hE : ((k : Int) == (l.length : Int)) = true := by simp [h2]
      clear h1 h2 htk hne
      go_enter Try.func26, Try.ntmps26
      go_wp2_with (go_at_call 40; refine (cApart w (.cells #[] 0)).mono ?_; rintro e w1 ⟨rfl, hb1⟩)
      go_ret
      exact ⟨ret_bool (by rw [HS.out]), hb1⟩
    · have hE : ((k : Int) == (l.length : Int)) = false := by simp; omega
      have hE' : ((k : Int) == (m.length : Int)) = true := by simp; omega
      clear h1 h2 htk hne
      go_enter Try.func26, Try.ntmps26
      go_wp2_with (go_at_call 40; refine (cApart w (.cells #[] 0)).mono ?_; rintro e w1 ⟨rfl, hb1⟩)
      go_ret
      exact ⟨ret_bool (by rw [HS.out]), hb1⟩
  · have hlt : k < l.length := by omega
    have hlt' : k < m.length := by omega
    have hE : ((k : Int) == (l.length : Int)) = false := by simp; omega
    have hE' : ((k : Int) == (m.length : Int)) = false := by simp; omega
    have HS := Lib.hid (lessR_stop htk hlt hlt' (hne _ _ (by simp [List.getElem?_eq_getElem hlt]) (by simp [List.getElem?_eq_getElem hlt']))).1
    clear h1 htk hne
    go_enter Try.func26, Try.ntmps26
    go_wp2_with (go_at_call 40; refine (cApart w (.cells #[] 0)).mono ?_; rintro e w1 ⟨rfl, hb1⟩)
    obtain ⟨b1, o1, hi1, c0, c1, c2, _⟩ := rd_val (HA.out.later hb1) rfl k hlt
    obtain ⟨b2, o2, hi2, d0, d1, d2, _⟩ := rd_val (HB.out.later hb1) rfl k hlt'
    have cS : ∀ d os, Calls Try.prog 41 #[.agg #[.int .i64 l[k].k, .int .i64 l[k].n, .string l[k].s], .agg #[.int .i64 m[k].k, .int .i64 m[k].n, .string m[k].s]] (grow (redrawn w1 d) os) fun e w'' => e = .returned (.bool (lessV l[k] m[k])) ∧ ∃ p : Regrown, w'' = grow (redrawn w1 p.d) p.os := fun d os => Calls.regrown_of (lessV_any _ _ _ _ _ _ _)
    have kc0 := cell_regrown c0
    have kc1 := cell_regrown c1
    have kc2 := cell_regrown c2
    have kd0 := cell_regrown d0
    have kd1 := cell_regrown d1
    have kd2 := cell_regrown d2
    refine wp_region_quiet_below (by kernel_rfl) (by kernel_rfl) ?_
    repeat (go_big_quiet_step (first | exact cS _ _))
    refine wpQuiet_nil ?_
    intro _ hw'
    obtain ⟨⟨dq, osq⟩, hw''⟩ := hw'
    subst hw''
    clear kc0 kc1 kc2 kd0 kd1 kd2 cS
    have hb2 := below_regrown w1 dq osq
    generalize grow (redrawn w1 dq) osq = w2 at *
    replace c0 := cell_later hb2 c0
    replace c1 := cell_later hb2 c1
    replace c2 := cell_later hb2 c2
    replace d0 := cell_later hb2 d0
    replace d1 := cell_later hb2 d1
    replace d2 := cell_later hb2 d2
    go_wp2_with fail
    go_ret
    exact ⟨ret_bool HS.out.symm, below_then hb1 hb2⟩

theorem sameR_apart (l m : List Val) : sameR l m = (decide (l.length = m.length) && decide (apartR l m = l.length)) := by
  obtain ⟨h1, h2, h3, h4⟩ := lessR_apart l m
  by_cases h : l = m
  · subst h
    have : apartR l l = l.length := by
      by_cases hlt : apartR l l < l.length
      · have := h4 _ _ (List.getElem?_eq_getElem hlt) (List.getElem?_eq_getElem hlt)
        rw [sameV_self] at this; cases this
      · omega
    simp [this]
  · have hf : sameR l m = false := decide_eq_false h
    rw [hf]
    by_cases hl : l.length = m.length
    · by_cases ha : apartR l m = l.length
      · rw [ha, List.take_length, hl, List.take_length] at h3
        exact absurd h3 h
      · simp [ha]
    · simp [hl]

set_option maxRecDepth 100000 in
set_option maxHeartbeats 400000 in
theorem sameR_any (va vb : Value) (l m : List Val) (w : World) (ha : Rd w va l.length (rowCs l)) (hb : Rd w vb m.length (rowCs m)) :
    Calls Try.prog 27 #[va, vb] w fun e w' => e = .returned (.bool (sameR l m)) ∧ Below w.heap.size w w' := by
  obtain ⟨aa, ca, rfl, hna, hma, _, _⟩ := id ha
  obtain ⟨ab, cb, rfl, hnb, hmb, _, _⟩ := id hb
  unfold maxLen at hma hmb
  have HA := Lib.hid ha
  have HB := Lib.hid hb
  clear ha hb
  have cApart : ∀ (W : World), Calls Try.prog 40 #[.slice (some ⟨w.heap.size, 0, none⟩) 2 2] (w.alloc (.cells #[.slice aa l.length ca, .slice ab m.length cb] 24)) fun e w' => e = .returned (.int .i64 (apartR l m)) ∧ Below w.heap.size w w' := by
    intro _
    have h := apart_any (.slice (some ⟨w.heap.size, 0, none⟩) 2 2) (.slice aa l.length ca) (.slice ab m.length cb) l m (w.alloc (.cells #[.slice aa l.length ca, .slice ab m.length cb] 24)) (HA.out.later (below_alloc _ _)) (HB.out.later (below_alloc _ _)) (rd_lit _ _ _ 2 (by decide))
    refine h.mono ?_
    rintro e w1 ⟨rfl, hb⟩
    exact ⟨rfl, below_alloc_then hb⟩
  by_cases h1 : l.length = m.length
  · have hE : ((l.length : Int) == (m.length : Int)) = true := by simp [h1]
    have HS := Lib.hid (sameR_apart l m)
    have HL := Lib.hid h1
    clear h1
    go_enter Try.func27, Try.ntmps27
    go_wp2_with (go_at_call 40; refine (cApart w).mono ?_; rintro e w1 ⟨rfl, hb1⟩)
    go_ret
    refine ⟨ret_bool ?_, hb1⟩
    rw [HS.out, decide_eq_true HL.out]
    by_cases hz : apartR l m = l.length
    · simp [hz]
    · simp [hz]; omega
  · have hE : ((l.length : Int) == (m.length : Int)) = false := by simp; omega
    have HS := Lib.hid (sameR_apart l m)
    have HL := Lib.hid h1
    clear h1
    go_enter Try.func27, Try.ntmps27
    go_wp2_with fail
    go_ret
    refine ⟨ret_bool ?_, Below.refl _ _⟩
    rw [HS.out, decide_eq_false HL.out]; rfl
end Go.Proofs.Ytgmemdhbnnhifaa
