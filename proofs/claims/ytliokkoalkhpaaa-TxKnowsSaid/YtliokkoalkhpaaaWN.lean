/-
  Layer 17 (tx): an operation's parts, op.Right, note and tx.Right, in general. (joined of the texts that gen_wk.py, gen_wl.py and gen_wm.py printed)
-/
import Derived.Test.YtliokkoalkhpaaaWG
namespace Go.Proofs.Ytliokkoalkhpaaa
section
open Go.RowKit Go.Sort Go.BigFrame

/-- Some bool; what there was is as it was. -/
abbrev SomeB (w : World) (e : Ending) (w' : World) : Prop := (∃ r : Bool, e = .returned (.bool r)) ∧ Below w.heap.size w w'
/-- Some number. -/
abbrev SomeN (w : World) (e : Ending) (w' : World) : Prop := (∃ n : Int, e = .returned (.int .i64 n)) ∧ Below w.heap.size w w'

set_option maxRecDepth 100000 in
set_option maxHeartbeats 4000000 in
theorem blank_any {k t y c vk vn a b i : Int} {vs : ByteArray} {ra : Option Addr} {rn rc : Nat} (w : World) :
    Calls Try.prog 81 #[.agg #[.int .i64 k, .int .i64 t, .int .i64 y, .int .i64 c, .slice ra rn rc, .int .i64 vk, .int .i64 vn, .string vs, .int .i64 a, .int .i64 b, .int .i64 i]] w (SomeB w) := by
  go_enter Try.func81, Try.ntmps81
  go_wp2
  all_goals (go_ret; exact ⟨⟨_, rfl⟩, below_alloc _ _⟩)

set_option maxRecDepth 100000 in
set_option maxHeartbeats 4000000 in
theorem place_any {k t y c vk vn a b i : Int} {vs : ByteArray} {ra : Option Addr} {rn rc : Nat} (w : World) :
    Calls Try.prog 95 #[.agg #[.int .i64 k, .int .i64 t, .int .i64 y, .int .i64 c, .slice ra rn rc, .int .i64 vk, .int .i64 vn, .string vs, .int .i64 a, .int .i64 b, .int .i64 i]] w (SomeB w) := by
  go_enter Try.func95, Try.ntmps95
  go_wp2_with (go_at_call 77; refine (within_any _ _ _ _).mono ?_; rintro e w1 ⟨rfl, rfl⟩)
  all_goals (go_ret; exact ⟨⟨_, rfl⟩, below_alloc _ _⟩)
/-- A column's value. -/
theorem rightV_s {k n : Int} {s : ByteArray} {w : World} : Calls Try.prog 87 #[.agg #[.int .i64 k, .int .i64 n, .string s]] w fun e w' => e = .returned (.bool (rightV ⟨k, n, s⟩)) ∧ Below w.heap.size w w' := rightV_any k n s w
/-! ### val -/
set_option maxRecDepth 100000 in
set_option maxHeartbeats 8000000 in
theorem val_any {nm : ByteArray} {kd ty : Int} {nl : Bool} {k t y c vk vn a b i : Int} {vs : ByteArray} {ra : Option Addr} {rn rc : Nat} (w : World) :
    Calls Try.prog 94 #[.agg #[.string nm, .int .i64 kd, .int .i64 ty, .bool nl], .agg #[.int .i64 k, .int .i64 t, .int .i64 y, .int .i64 c, .slice ra rn rc, .int .i64 vk, .int .i64 vn, .string vs, .int .i64 a, .int .i64 b, .int .i64 i]] w (SomeN w) := by
  go_enter Try.func94, Try.ntmps94
  go_upto_region 2 with fail
  obtain ⟨w3, hw3⟩ : ∃ w3, ((w.alloc (.cells #[.string nm, .int .i64 kd, .int .i64 ty, .bool nl] 56)).alloc (.cells #[.int .i64 k, .int .i64 t, .int .i64 y, .int .i64 c, .slice ra rn rc, .int .i64 vk, .int .i64 vn, .string vs, .int .i64 a, .int .i64 b, .int .i64 i] 89)).alloc (.cells #[.int .i64 vk, .int .i64 vn, .string vs] 87) = w3 := ⟨_, rfl⟩
  have hb3 : Below w.heap.size w w3 := by rw [← hw3]; exact below_then (below_alloc _ _) (below_then (below_alloc _ _) (below_alloc _ _))
  have b0 : Bx w3 w.heap.size #[.string nm, .int .i64 kd, .int .i64 ty, .bool nl] 56 := by rw [← hw3]; exact bx_later (below_then (below_alloc _ _) (below_alloc _ _)) (bx_new rfl)
  have b1 : Bx w3 (w.heap.size + 1) #[.int .i64 k, .int .i64 t, .int .i64 y, .int .i64 c, .slice ra rn rc, .int .i64 vk, .int .i64 vn, .string vs, .int .i64 a, .int .i64 b, .int .i64 i] 89 := by rw [← hw3]; exact bx_later (below_alloc _ _) (bx_new (by simp))
  have b2 : Bx w3 (w.heap.size + 1 + 1) #[.int .i64 vk, .int .i64 vn, .string vs] 87 := by rw [← hw3]; exact bx_new (by simp)
  rw [hw3]
  have HB3 := Lib.hid hb3
  have H0 := Lib.hid b0
  have H1 := Lib.hid b1
  have H2 := Lib.hid b2
  have x0 := cell_of_box b0 0 rfl; have x1 := cell_of_box b0 1 rfl; have x2 := cell_of_box b0 2 rfl; have x3 := cell_of_box b0 3 rfl
  have p0 := cell_of_box b1 0 rfl; have p1 := cell_of_box b1 1 rfl; have p2 := cell_of_box b1 2 rfl; have p3 := cell_of_box b1 3 rfl; have p4 := cell_of_box b1 4 rfl; have p5 := cell_of_box b1 5 rfl; have p6 := cell_of_box b1 6 rfl; have p7 := cell_of_box b1 7 rfl; have p8 := cell_of_box b1 8 rfl; have p9 := cell_of_box b1 9 rfl; have p10 := cell_of_box b1 10 rfl
  have v0 := cell_of_box b2 0 rfl; have v1 := cell_of_box b2 1 rfl; have v2 := cell_of_box b2 2 rfl
  clear hw3 hb3 b0 b1 b2
  go_wp2_with (go_at_call 87; refine (rightV_s).mono ?_; rintro e w4 ⟨rfl, hb4⟩; have x'0 := cell_of_box (bx_later hb4 H0.out) 0 rfl; have x'1 := cell_of_box (bx_later hb4 H0.out) 1 rfl; have x'2 := cell_of_box (bx_later hb4 H0.out) 2 rfl; have x'3 := cell_of_box (bx_later hb4 H0.out) 3 rfl; have p'0 := cell_of_box (bx_later hb4 H1.out) 0 rfl; have p'1 := cell_of_box (bx_later hb4 H1.out) 1 rfl; have p'2 := cell_of_box (bx_later hb4 H1.out) 2 rfl; have p'3 := cell_of_box (bx_later hb4 H1.out) 3 rfl; have p'4 := cell_of_box (bx_later hb4 H1.out) 4 rfl; have p'5 := cell_of_box (bx_later hb4 H1.out) 5 rfl; have p'6 := cell_of_box (bx_later hb4 H1.out) 6 rfl; have p'7 := cell_of_box (bx_later hb4 H1.out) 7 rfl; have p'8 := cell_of_box (bx_later hb4 H1.out) 8 rfl; have p'9 := cell_of_box (bx_later hb4 H1.out) 9 rfl; have p'10 := cell_of_box (bx_later hb4 H1.out) 10 rfl; have v'0 := cell_of_box (bx_later hb4 H2.out) 0 rfl; have v'1 := cell_of_box (bx_later hb4 H2.out) 1 rfl; have v'2 := cell_of_box (bx_later hb4 H2.out) 2 rfl)
  all_goals (go_ret; first | exact ⟨⟨_, rfl⟩, below_then HB3.out hb4⟩ | exact ⟨⟨_, rfl⟩, below_then HB3.out (by assumption)⟩ | exact ⟨⟨_, rfl⟩, HB3.out⟩)
end
section
open Go.RowKit Go.Sort Go.BigFrame Go.MapKept
attribute [local irreducible] FlowW

theorem right_n {ca ra : Option Addr} {cn cc rn rc : Nat} {l : List Col} {m : List Val} {w : World} (hl : cn = l.length) (hm : rn = m.length) (hc : Rd w (.slice ca cn cc) cn (colsCs l)) (hr : Rd w (.slice ra rn rc) rn (rowCs m)) :
    Calls Try.prog 91 #[.slice ca cn cc, .slice ra rn rc] w (SomeN w) := by
  subst hl hm
  exact (rightR_any _ _ l m w hc hr).mono fun _ _ ⟨h1, h2⟩ => ⟨⟨_, h1⟩, h2⟩
set_option maxRecDepth 100000 in
set_option maxHeartbeats 8000000 in
theorem insert_any {tn : ByteArray} {ca : Option Addr} {cn cc : Nat} {u2 u3 u4 u5 : Value} {k t y c vk vn a b i : Int} {vs : ByteArray} {ra : Option Addr} {rn rc : Nat} {l : List Col} {m : List Val} {w : World} (hl : cn = l.length) (hm : rn = m.length) (hc : Rd w (.slice ca cn cc) cn (colsCs l)) (hr : Rd w (.slice ra rn rc) rn (rowCs m)) :
    Calls Try.prog 78 #[.agg #[.string tn, .slice ca cn cc, u2, u3, u4, u5], .agg #[.int .i64 k, .int .i64 t, .int .i64 y, .int .i64 c, .slice ra rn rc, .int .i64 vk, .int .i64 vn, .string vs, .int .i64 a, .int .i64 b, .int .i64 i]] w (SomeN w) := by
  have HL := Lib.hid hl
  have HM := Lib.hid hm
  have HC := Lib.hid hc
  have HR := Lib.hid hr
  clear hl hm hc hr
  go_enter Try.func78, Try.ntmps78
  go_upto_region 1 with fail
  obtain ⟨w2, hw2⟩ : ∃ w2, (w.alloc (.cells #[.string tn, .slice ca cn cc, u2, u3, u4, u5] 62)).alloc (.cells #[.int .i64 k, .int .i64 t, .int .i64 y, .int .i64 c, .slice ra rn rc, .int .i64 vk, .int .i64 vn, .string vs, .int .i64 a, .int .i64 b, .int .i64 i] 89) = w2 := ⟨_, rfl⟩
  have hb2 : Below w.heap.size w w2 := by rw [← hw2]; exact below_then (below_alloc _ _) (below_alloc _ _)
  have b0 : Bx w2 w.heap.size #[.string tn, .slice ca cn cc, u2, u3, u4, u5] 62 := by rw [← hw2]; exact bx_later (below_alloc _ _) (bx_new rfl)
  have b1 : Bx w2 (w.heap.size + 1) #[.int .i64 k, .int .i64 t, .int .i64 y, .int .i64 c, .slice ra rn rc, .int .i64 vk, .int .i64 vn, .string vs, .int .i64 a, .int .i64 b, .int .i64 i] 89 := by rw [← hw2]; exact bx_new (by simp)
  rw [hw2]
  have HB2 := Lib.hid hb2
  have H0 := Lib.hid b0
  have H1 := Lib.hid b1
  have x0 := cell_of_box b0 0 rfl; have x1 := cell_of_box b0 1 rfl
  have p0 := cell_of_box b1 0 rfl; have p1 := cell_of_box b1 1 rfl; have p2 := cell_of_box b1 2 rfl; have p3 := cell_of_box b1 3 rfl; have p4 := cell_of_box b1 4 rfl; have p5 := cell_of_box b1 5 rfl; have p6 := cell_of_box b1 6 rfl; have p7 := cell_of_box b1 7 rfl; have p8 := cell_of_box b1 8 rfl; have p9 := cell_of_box b1 9 rfl; have p10 := cell_of_box b1 10 rfl
  clear hw2 hb2 b0 b1
  by_cases hy : y = 0
  case neg =>
    go_wp2_with fail
    go_ret
    exact ⟨⟨_, rfl⟩, HB2.out⟩
  subst hy
  go_wp2_with fail
  refine (blank_any _).mono ?_
  rintro e w3 ⟨⟨r3, rfl⟩, hb3⟩
  have HB3 := Lib.hid hb3
  have x'1 := cell_of_box (bx_later hb3 H0.out) 1 rfl
  have p'4 := cell_of_box (bx_later hb3 H1.out) 4 rfl
  clear hb3 x0 x1 p0 p1 p2 p3 p4 p5 p6 p7 p8 p9 p10
  cases r3
  · go_wp2_with fail
    go_ret
    exact ⟨⟨_, rfl⟩, below_then HB2.out HB3.out⟩
  go_wp2_with fail
  refine (right_n HL.out HM.out (HC.out.later (below_then HB2.out HB3.out)) (HR.out.later (below_then HB2.out HB3.out))).mono ?_
  rintro e w4 ⟨⟨r4, rfl⟩, hb4⟩
  have HB4 := Lib.hid hb4
  have p''4 := cell_of_box (bx_later (below_then HB3.out hb4) H1.out) 4 rfl
  clear hb4 x'1 p'4
  by_cases hr4 : r4 = 0
  case neg =>
    go_wp2_with fail
    go_ret
    exact ⟨⟨_, rfl⟩, below_then HB2.out (below_then HB3.out HB4.out)⟩
  subst hr4
  by_cases hrn : rn = 0
  · subst hrn
    go_wp2_with fail
    go_ret
    exact ⟨⟨_, rfl⟩, below_then HB2.out (below_then HB3.out HB4.out)⟩
  obtain ⟨bq, oq, hiq, _, cq1, _, _⟩ := rd_val (l := m) (HR.out.later (below_then HB2.out (below_then HB3.out HB4.out))) HM.out 0 (by have := HM.out; omega)
  obtain ⟨zz, hzz⟩ : ∃ zz, (m[0]'(by have := HM.out; omega)).n = zz := ⟨_, rfl⟩
  rw [hzz] at cq1
  have hi' : ∀ W, (Instr.indexAt 85 (.slice ra rn rc) (.int .i64 0)).run Try.prog W = .ok (.pointer (some ⟨bq, oq, none⟩)) W := hiq
  clear hzz hiq
  go_wp2_with fail
  refine (key_b _ rfl).mono ?_
  rintro e w5 ⟨rfl, rfl⟩
  cases inQ3 zz 0 1073741823
  all_goals
    go_wp2_with fail
    go_ret
    exact ⟨⟨_, rfl⟩, below_then HB2.out (below_then HB3.out HB4.out)⟩
/-- A new map, whose keys are ks, each with a slice of numbers. -/
def KM (w0 w : World) (ks : List Int) : Prop :=
  Below w0.heap.size w0 w ∧ ∃ es ck, w.heap[w0.heap.size]? = some (.map es ck) ∧ es.toList.map MapEntry.key = ks.map ic ∧ ∀ e ∈ es.toList, ∃ l : List Int, Rd w e.val l.length (l.map ic)

theorem km_new (w : World) : KM w (w.alloc (.map #[] 0)) [] := ⟨below_alloc _ _, #[], 0, (heap_alloc w _).1, rfl, fun _ h => nomatch h⟩
theorem KM.later {w0 w w' : World} {ks : List Int} (h : KM w0 w ks) (hb : Below w.heap.size w w') : KM w0 w' ks := by
  obtain ⟨h1, es, ck, h2, h3, h4⟩ := h
  refine ⟨below_then h1 hb, es, ck, ?_, h3, fun e he => (h4 e he).imp fun l hl => hl.later hb⟩
  have hlt := (Array.getElem?_eq_some_iff.1 h2).1
  rw [hb.block _ hlt]
  exact h2
theorem findNow_none {k : Int} : ∀ (es : List MapEntry) (i : Nat) (ks : List Int), es.map MapEntry.key = ks.map ic → k ∉ ks → Instr.findNow (.int .i64) (.int .i64 k) es i = some none
  | [], _, _, _, _ => rfl
  | e :: es, i, [], h, _ => nomatch h
  | e :: es, i, j :: ks, h, hk => by
    simp only [List.map_cons, List.cons.injEq] at h
    simp only [List.mem_cons, not_or] at hk
    have hs : Instr.sameNow (.int .i64) (.int .i64 k) e.key = some false := by
      rw [h.1]
      simp [Instr.sameNow, hk.1]
    simp only [Instr.findNow, hs]
    exact findNow_none es (i + 1) ks h.2 hk.2
theorem findNow_some {k : Int} : ∀ (es : List MapEntry) (i : Nat) (ks : List Int), es.map MapEntry.key = ks.map ic → k ∈ ks → ∃ j e, e ∈ es ∧ Instr.findNow (.int .i64) (.int .i64 k) es i = some (some (j, e.val))
  | [], _, [], _, hk => nomatch hk
  | [], _, _ :: _, h, _ => nomatch h
  | e :: es, i, [], h, _ => nomatch h
  | e :: es, i, j :: ks, h, hk => by
    simp only [List.map_cons, List.cons.injEq] at h
    by_cases hj : k = j
    · subst hj
      have hs : Instr.sameNow (.int .i64) (.int .i64 k) e.key = some true := by
        rw [h.1]
        simp [Instr.sameNow]
      exact ⟨i, e, by simp, by simp only [Instr.findNow, hs]⟩
    · have hs : Instr.sameNow (.int .i64) (.int .i64 k) e.key = some false := by
        rw [h.1]
        simp [Instr.sameNow, hj]
      simp only [List.mem_cons, hj, false_or] at hk
      obtain ⟨a, e', h1, h2⟩ := findNow_some es (i + 1) ks h.2 hk
      exact ⟨a, e', List.mem_cons_of_mem _ h1, by simp only [Instr.findNow, hs]; exact h2⟩
theorem rd_map {w w' : World} {g : Nat} {es : Array MapEntry} {ck : Nat} (hg : w.heap[g]? = some (.map es ck)) (hb : But (fun k => k = g) w w') {v : Value} {n : Nat} {xs : List Value} (h : Rd w v n xs) : Rd w' v n xs := by
  obtain ⟨ao, c, rfl, h1, h2, h3, h4⟩ := h
  refine ⟨ao, c, rfl, h1, h2, h3, fun a ha j u hu => ?_⟩
  have hc := h4 a ha j u hu
  refine hb.cell hc fun he => ?_
  simp [World.cell?, he, hg] at hc
theorem km_step {w0 w : World} {ks : List Int} (h : KM w0 w ks) (k : Int) (l : List Int) (hk : k ∉ ks) (cs : Array Value) (hcs : cs.toList = l.map ic) (n : Nat) (hn : n = l.length) (hl : l.length ≤ 1000) :
    ∃ W', (Instr.mapUpdate 135 (.map (some w0.heap.size)) (.int .i64 k) (.slice (some ⟨w.heap.size, 0, none⟩) n n)).run Try.prog (w.alloc (.cells cs 3)) = .ok () W' ∧ KM w0 W' (ks ++ [k]) := by
  subst hn
  have hr : Rd (w.alloc (.cells cs 3)) (.slice (some ⟨w.heap.size, 0, none⟩) l.length l.length) l.length (l.map ic) := by rw [← hcs]; exact rd_lit w cs _ _ (by unfold maxLen; omega)
  obtain ⟨h1, es, ck, h2, h3, h4⟩ := h.later (below_alloc w (.cells cs 3))
  have hu : Try.prog.underlying 135 = some (.map 3 22) := Try.underlying135
  have hd : Try.prog.underlying 3 = some (.int .i64) := Try.underlying3
  have hf := findNow_none es.toList 0 ks h3 hk
  have hb : But (fun k => k = w0.heap.size) (w.alloc (.cells cs 3)) { (w.alloc (.cells cs 3)) with heap := (w.alloc (.cells cs 3)).heap.setIfInBounds w0.heap.size (.map (es.push ⟨.int .i64 k, .slice (some ⟨w.heap.size, 0, none⟩) l.length l.length, ck⟩) (ck + 1)) } :=
    ⟨rfl, rfl, rfl, by simp, fun j hj hne => (heap_set h2).2 j hne⟩
  refine ⟨{ (w.alloc (.cells cs 3)) with heap := (w.alloc (.cells cs 3)).heap.setIfInBounds w0.heap.size (.map (es.push ⟨.int .i64 k, .slice (some ⟨w.heap.size, 0, none⟩) l.length l.length, ck⟩) (ck + 1)) }, ?_, ?_⟩
  · simp only [Instr.mapUpdate, Sem.run_bind, run_underlying hu, Go.MapKept.run_getObj_map h2, Go.MapKept.run_checkKey (k := .int .i64 k) hd rfl, Go.MapKept.run_findKey hd hf, Go.MapKept.run_setObj_map _ h2, Result.andThen]
  · refine ⟨h1.trans ⟨rfl, rfl, rfl, by simp, fun j hj => (heap_set h2).2 j (by omega)⟩, es.push ⟨.int .i64 k, .slice (some ⟨w.heap.size, 0, none⟩) l.length l.length, ck⟩, ck + 1, (heap_set h2).1, ?_, ?_⟩
    · simp [h3, ic]
    · intro e he
      simp only [Array.toList_push, List.mem_append, List.mem_singleton] at he
      rcases he with he | rfl
      · exact (h4 e he).imp fun l hl => rd_map h2 hb hl
      · exact ⟨l, rd_map h2 hb hr⟩
/-- What is looked up is a slice of numbers. -/
theorem KM.look {w0 w : World} {ks : List Int} (h : KM w0 w ks) (k : Int) : ∃ (v : Value) (l : List Int), (Instr.lookup 135 (.map (some w0.heap.size)) (.int .i64 k) false).run Try.prog w = .ok v w ∧ Rd w v l.length (l.map ic) := by
  obtain ⟨h1, es, ck, h2, h3, h4⟩ := h
  have hu : Try.prog.underlying 135 = some (.map 3 22) := Try.underlying135
  have hd : Try.prog.underlying 3 = some (.int .i64) := Try.underlying3
  by_cases hk : k ∈ ks
  · obtain ⟨j, e, he, hf⟩ := findNow_some es.toList 0 ks h3 hk
    obtain ⟨l, hl⟩ := h4 e he
    refine ⟨e.val, l, ?_, hl⟩
    simp [Instr.lookup, run_underlying hu, Go.MapKept.run_getObj_map h2, Go.MapKept.run_checkKey (k := .int .i64 k) hd rfl, Go.MapKept.run_findKey hd hf, Result.andThen]
  · have hf := findNow_none es.toList 0 ks h3 hk
    have hz : (zeroValue 22).run Try.prog w = .ok (.slice none 0 0) w := by kernel_rfl
    refine ⟨.slice none 0 0, [], ?_, ⟨none, 0, rfl, Nat.le_refl _, Nat.zero_le _, fun _ => rfl, fun _ ha => nomatch ha⟩⟩
    simp [Instr.lookup, run_underlying hu, Go.MapKept.run_getObj_map h2, Go.MapKept.run_checkKey (k := .int .i64 k) hd rfl, Go.MapKept.run_findKey hd hf, hz, Result.andThen]
theorem run_mk (W : World) : (Instr.makeMap 135 none).run Try.prog W = .ok (.map (some W.heap.size)) (W.alloc (.map #[] 0)) := rfl
set_option maxRecDepth 100000 in
set_option maxHeartbeats 8000000 in
theorem kinds_any (w : World) :
    Calls Try.prog 93 #[] w fun e w' => e = .returned (.map (some w.heap.size)) ∧ ∃ ks, KM w w' ks := by
  have k0 := km_new w
  have hmk := run_mk w
  obtain ⟨w1, hw1⟩ : ∃ w1, w.alloc (.map #[] 0) = w1 := ⟨_, rfl⟩
  rw [hw1] at k0 hmk
  clear hw1
  obtain ⟨w2, h2, k2⟩ := km_step k0 2 [0, 1] (by decide) #[.int .i64 0, .int .i64 1] rfl 2 rfl (by decide)
  obtain ⟨w3, h3, k3⟩ := km_step k2 3 [2] (by decide) #[.int .i64 2] rfl 1 rfl (by decide)
  obtain ⟨w4, h4, k4⟩ := km_step k3 4 [3] (by decide) #[.int .i64 3] rfl 1 rfl (by decide)
  obtain ⟨w5, h5, k5⟩ := km_step k4 5 [3] (by decide) #[.int .i64 3] rfl 1 rfl (by decide)
  obtain ⟨w6, h6, k6⟩ := km_step k5 6 [4] (by decide) #[.int .i64 4] rfl 1 rfl (by decide)
  obtain ⟨w7, h7, k7⟩ := km_step k6 7 [4] (by decide) #[.int .i64 4] rfl 1 rfl (by decide)
  have HK := Lib.hid k7
  clear k0 k2 k3 k4 k5 k6 k7
  go_enter Try.func93, Try.ntmps93
  go_wp2_with fail
  go_ret
  exact ⟨rfl, _, HK.out⟩
set_option maxRecDepth 100000 in
set_option maxHeartbeats 1000000 in
theorem index_n {v : Value} {x : Int} {l : List Int} {w : World} (h : Rd w v l.length (l.map ic)) :
    Calls Try.prog 99 #[v, .int .i64 x] w (SomeN w) := by
  obtain ⟨ao, c, rfl, hnc, hcm, _, _⟩ := id h
  obtain ⟨n, hln⟩ : ∃ n, l.length = n := ⟨_, rfl⟩
  have HA := Lib.hid h
  have HLN := Lib.hid hln
  rw [hln] at hnc ⊢
  unfold maxLen at hcm
  clear h hln
  go_enter Try.func99, Try.ntmps99
  go_wp2
  go_loop [8] (fun vi => ∃ k : Nat, k ≤ n ∧ vi = .int .i64 k) (fun vi => n - (intOf vi).toNat)
  case atStart => exact ⟨0, Nat.zero_le _, rfl⟩
  case round =>
    obtain ⟨k, hk, rfl⟩ := hrel
    by_cases hlt : k < n
    · have hkl : k < l.length := by have := HLN.out; omega
      obtain ⟨A, x1, c0, _⟩ := rd_one elInts ic HA.out rfl k hkl
      rw [HLN.out] at x1
      obtain ⟨z, hz⟩ : ∃ z, l[k] = z := ⟨_, rfl⟩
      rw [hz] at c0
      clear hz
      by_cases hp : x = z
      · subst hp
        go_wp2_with fail
        go_ret
        exact ⟨⟨_, rfl⟩, Below.refl _ _⟩
      · go_wp2_with fail
        go_round
        case rel => exact ⟨k + 1, by omega, by go_num⟩
        case measure => simp [intOf]; omega
    · have hkn : k = n := by omega
      subst hkn
      go_wp2_with fail
      go_ret
      exact ⟨⟨_, rfl⟩, Below.refl _ _⟩
set_option maxRecDepth 100000 in
theorem contains_n {v : Value} {x : Int} {l : List Int} {w : World} (h : Rd w v l.length (l.map ic)) :
    Calls Try.prog 92 #[v, .int .i64 x] w (SomeB w) := by
  have H := Lib.hid (index_n (x := x) h)
  go_enter Try.func92, Try.ntmps92
  go_wp2_with fail
  refine H.out.mono ?_
  rintro e w2 ⟨⟨r, rfl⟩, hb⟩
  have HB := Lib.hid hb
  clear hb
  by_cases hr : 0 ≤ r
  all_goals
    go_wp2_with fail
    go_ret
    exact ⟨⟨_, rfl⟩, HB.out⟩
/-- A map of numbers' slices. -/
def MLook (v : Value) (w : World) : Prop := ∃ (w0 : World) (ks : List Int), v = .map (some w0.heap.size) ∧ KM w0 w ks
theorem MLook.later {v : Value} {w w' : World} (h : MLook v w) (hb : Below w.heap.size w w') : MLook v w' := by
  obtain ⟨w0, ks, h1, h2⟩ := h
  exact ⟨w0, ks, h1, h2.later hb⟩
theorem MLook.look {v : Value} {w : World} (h : MLook v w) (k : Int) : ∃ (u : Value) (l : List Int), (Instr.lookup 135 v (.int .i64 k) false).run Try.prog w = .ok u w ∧ Rd w u l.length (l.map ic) := by
  obtain ⟨w0, ks, rfl, h2⟩ := h
  exact h2.look k
theorem kinds_m (w : World) : Calls Try.prog 93 #[] w fun e w' => (∃ v, e = .returned v ∧ MLook v w') ∧ Below w.heap.size w w' :=
  (kinds_any w).mono fun _ _ ⟨h1, ks, h2⟩ => ⟨⟨_, h1, w, ks, rfl, h2⟩, h2.1⟩
set_option maxRecDepth 100000 in
set_option maxHeartbeats 8000000 in
theorem cell_any {tn : ByteArray} {ca : Option Addr} {cn cc : Nat} {u2 u3 u4 u5 : Value} {k t y c vk vn a b i : Int} {vs : ByteArray} {ra : Option Addr} {rn rc : Nat} {l : List Col} {w : World} (hl : cn = l.length) (hc : Rd w (.slice ca cn cc) cn (colsCs l)) :
    Calls Try.prog 80 #[.agg #[.string tn, .slice ca cn cc, u2, u3, u4, u5], .agg #[.int .i64 k, .int .i64 t, .int .i64 y, .int .i64 c, .slice ra rn rc, .int .i64 vk, .int .i64 vn, .string vs, .int .i64 a, .int .i64 b, .int .i64 i]] w (SomeN w) := by
  have HL := Lib.hid hl
  have HC := Lib.hid hc
  have hcm : cn ≤ maxLen := by obtain ⟨_, _, hv, h1, h2, -, -⟩ := id hc; cases hv; omega
  unfold maxLen at hcm
  clear hl hc
  go_enter Try.func80, Try.ntmps80
  go_upto_region 1 with fail
  obtain ⟨w2, hw2⟩ : ∃ w2, (w.alloc (.cells #[.string tn, .slice ca cn cc, u2, u3, u4, u5] 62)).alloc (.cells #[.int .i64 k, .int .i64 t, .int .i64 y, .int .i64 c, .slice ra rn rc, .int .i64 vk, .int .i64 vn, .string vs, .int .i64 a, .int .i64 b, .int .i64 i] 89) = w2 := ⟨_, rfl⟩
  have hb2 : Below w.heap.size w w2 := by rw [← hw2]; exact below_then (below_alloc _ _) (below_alloc _ _)
  have b0 : Bx w2 w.heap.size #[.string tn, .slice ca cn cc, u2, u3, u4, u5] 62 := by rw [← hw2]; exact bx_later (below_alloc _ _) (bx_new rfl)
  have b1 : Bx w2 (w.heap.size + 1) #[.int .i64 k, .int .i64 t, .int .i64 y, .int .i64 c, .slice ra rn rc, .int .i64 vk, .int .i64 vn, .string vs, .int .i64 a, .int .i64 b, .int .i64 i] 89 := by rw [← hw2]; exact bx_new (by simp)
  rw [hw2]
  have HB2 := Lib.hid hb2
  have H0 := Lib.hid b0
  have H1 := Lib.hid b1
  have x0 := cell_of_box b0 0 rfl; have x1 := cell_of_box b0 1 rfl
  have p0 := cell_of_box b1 0 rfl; have p1 := cell_of_box b1 1 rfl; have p2 := cell_of_box b1 2 rfl; have p3 := cell_of_box b1 3 rfl; have p4 := cell_of_box b1 4 rfl; have p5 := cell_of_box b1 5 rfl; have p6 := cell_of_box b1 6 rfl; have p7 := cell_of_box b1 7 rfl; have p8 := cell_of_box b1 8 rfl; have p9 := cell_of_box b1 9 rfl; have p10 := cell_of_box b1 10 rfl
  clear hw2 hb2 b0 b1
  by_cases hc0 : c < 0
  · go_wp2_with fail
    go_ret
    exact ⟨⟨_, rfl⟩, HB2.out⟩
  by_cases hc1 : (cn : Int) ≤ c
  · go_wp2_with fail
    go_ret
    exact ⟨⟨_, rfl⟩, HB2.out⟩
  by_cases hc2 : c = 0
  · subst hc2
    go_wp2_with fail
    go_ret
    exact ⟨⟨_, rfl⟩, HB2.out⟩
  obtain ⟨j, rfl⟩ : ∃ j : Nat, c = (j : Int) := ⟨c.toNat, by omega⟩
  have hj1 : j < cn := by omega
  have hj2 : (j : Int) < (cn : Int) := by omega
  obtain ⟨bq, oq, hiq, cq0, cq1, cq2, cq3, _⟩ := rd_col (HC.out.later HB2.out) HL.out j (by have := HL.out; omega)
  obtain ⟨zz, hzz⟩ : ∃ zz, l[j]'(by have := HL.out; omega) = zz := ⟨_, rfl⟩
  rw [hzz] at cq0 cq1 cq2 cq3
  have HQ0 := Lib.hid cq0
  have HQ1 := Lib.hid cq1
  have HQ2 := Lib.hid cq2
  have HQ3 := Lib.hid cq3
  clear hzz cq0 cq2 cq3
  go_wp2_with fail
  refine wp_region_flow (by kernel_rfl) 14 [(0, ⟨fun _ => True, fun v _ _ w' => MLook v w'⟩), (3, ⟨fun _ => True, fun v _ _ w' => ∃ l : List Int, Rd w' v l.length (l.map ic)⟩), (11, ⟨fun v => ∃ r : Bool, v = .bool r, fun _ _ _ _ => True⟩)] (by kernel_rfl) ?_ ?_ ?_
  · intro x hx
    simp only [List.mem_cons, List.not_mem_nil, or_false] at hx
    rcases hx with rfl | rfl | rfl
    · exact ⟨.bool true, trivial⟩
    · exact ⟨.bool true, trivial⟩
    · exact ⟨_, true, rfl⟩
  · intro x hx v lo hi w w' h hb
    simp only [List.mem_cons, List.not_mem_nil, or_false] at hx
    rcases hx with rfl | rfl | rfl
    · exact h.later hb
    · obtain ⟨l, h1⟩ := h
      exact ⟨l, h1.later hb⟩
    · exact trivial
  · intro lo hi
    have kx1 := cell_regrown x1
    have kp0 := cell_regrown p0
    have kp3 := cell_regrown p3
    have kcq1 := cell_regrown cq1
    refine flowW_call rfl rfl ?_ ?_
    · intro W hW hF K hK
      clear kx1 kp0 kp3 kcq1
      go_wp2_with fail
      refine (kinds_m _).mono ?_
      rintro e wq ⟨⟨vq, rfl, hm⟩, hbq⟩
      go_wp2_with fail
      exact hK _ _ trivial hm hbq
    rintro v - K hK
    go_simp
    refine hK _ ?_
    clear hK K
    refine flowW_plain rfl ?_
    go_big_quiet_step (fail)
    refine wpQuiet_nil ?_
    refine flowW_plain rfl ?_
    go_big_quiet_step (fail)
    refine wpQuiet_nil ?_
    refine flowW_call rfl rfl ?_ ?_
    · intro W hW hF K hK
      clear kx1 kp0 kp3 kcq1
      have h0 := hF 0 rfl
      obtain ⟨v3, l3, hlk, hr3⟩ := MLook.look h0 k
      go_wp2_with fail
      exact hK _ _ trivial ⟨l3, hr3⟩ (Below.refl _ _)
    rintro v - K hK
    go_simp
    refine hK _ ?_
    clear hK K
    refine flowW_plain rfl ?_
    go_big_quiet_step (fail)
    refine wpQuiet_nil ?_
    refine flowW_plain rfl ?_
    go_big_quiet_step (fail)
    refine wpQuiet_nil ?_
    refine flowW_plain rfl ?_
    go_big_quiet_step (fail)
    refine wpQuiet_nil ?_
    refine flowW_plain rfl ?_
    go_big_quiet_step (fail)
    refine wpQuiet_nil ?_
    refine flowW_plain rfl ?_
    go_big_quiet_step (fail)
    refine wpQuiet_nil ?_
    refine flowW_plain rfl ?_
    go_big_quiet_step (fail)
    refine wpQuiet_nil ?_
    refine flowW_plain rfl ?_
    go_big_quiet_step (fail)
    refine wpQuiet_nil ?_
    refine flowW_call rfl rfl ?_ ?_
    · intro W hW hF K hK
      clear kx1 kp0 kp3 kcq1
      obtain ⟨l3, h3⟩ := hF 3 rfl
      go_wp2_with fail
      refine (contains_n h3).mono ?_
      rintro e wq ⟨⟨r, rfl⟩, hbq⟩
      go_wp2_with fail
      exact hK _ _ ⟨_, rfl⟩ trivial hbq
    rintro v ⟨r11, rfl⟩ K hK
    go_simp
    refine hK _ ?_
    clear hK K
    refine flowW_plain rfl ?_
    go_big_quiet_step (fail)
    refine wpQuiet_nil ?_
    refine flowW_plain rfl ?_
    go_big_quiet_step (fail)
    refine wpQuiet_nil ?_
    refine flowW_end fun w3 hw3 hF hD => ?_
    clear kx1 kp0 kp3 kcq1
    simp only [List.drop_succ_cons, List.drop_zero]
    have HB3 := Lib.hid (below_then HB2.out hw3)
    have H03 := Lib.hid (bx_later hw3 H0.out)
    have H13 := Lib.hid (bx_later hw3 H1.out)
    replace HQ0 := Lib.hid (cell_later hw3 HQ0.out)
    replace HQ1 := Lib.hid (cell_later hw3 HQ1.out)
    replace HQ2 := Lib.hid (cell_later hw3 HQ2.out)
    replace HQ3 := Lib.hid (cell_later hw3 HQ3.out)
    clear hF hD hw3 cq1 x0 x1 p0 p1 p2 p3 p4 p5 p6 p7 p8 p9 p10
    have x1 := cell_of_box H03.out 1 rfl
    have p0 := cell_of_box H13.out 0 rfl
    have p1 := cell_of_box H13.out 1 rfl
    have p2 := cell_of_box H13.out 2 rfl
    have p3 := cell_of_box H13.out 3 rfl
    have p4 := cell_of_box H13.out 4 rfl
    have p5 := cell_of_box H13.out 5 rfl
    have p6 := cell_of_box H13.out 6 rfl
    have p7 := cell_of_box H13.out 7 rfl
    have p8 := cell_of_box H13.out 8 rfl
    have p9 := cell_of_box H13.out 9 rfl
    have p10 := cell_of_box H13.out 10 rfl
    have cq0 := HQ0.out
    have cq1 := HQ1.out
    have cq2 := HQ2.out
    have cq3 := HQ3.out
    cases r11
    · go_wp2_with fail
      go_ret
      exact ⟨⟨_, rfl⟩, HB3.out⟩
    go_wp2_with fail
    refine wp_region_flow (by kernel_rfl) 9 [(7, ⟨fun v => ∃ r : Int, v = .int .i64 r, fun _ _ _ _ => True⟩)] (by kernel_rfl) ?_ ?_ ?_
    · intro x hx
      simp only [List.mem_cons, List.not_mem_nil, or_false] at hx
      subst hx
      exact ⟨_, 0, rfl⟩
    · intro x hx v lo hi w w' h hb
      simp only [List.mem_cons, List.not_mem_nil, or_false] at hx
      subst hx
      exact trivial
    · intro lo hi
      have kx1 := cell_regrown x1
      have kcq0 := cell_regrown cq0
      have kcq1 := cell_regrown cq1
      have kcq2 := cell_regrown cq2
      have kcq3 := cell_regrown cq3
      have kp0 := cell_regrown p0
      have kp1 := cell_regrown p1
      have kp2 := cell_regrown p2
      have kp3 := cell_regrown p3
      have kp4 := cell_regrown p4
      have kp5 := cell_regrown p5
      have kp6 := cell_regrown p6
      have kp7 := cell_regrown p7
      have kp8 := cell_regrown p8
      have kp9 := cell_regrown p9
      have kp10 := cell_regrown p10
      refine flowW_plain rfl ?_
      go_big_quiet_step (fail)
      refine wpQuiet_nil ?_
      refine flowW_plain rfl ?_
      go_big_quiet_step (fail)
      refine wpQuiet_nil ?_
      refine flowW_plain rfl ?_
      go_big_quiet_step (fail)
      refine wpQuiet_nil ?_
      refine flowW_plain rfl ?_
      go_big_quiet_step (fail)
      refine wpQuiet_nil ?_
      refine flowW_plain rfl ?_
      go_big_quiet_step (fail)
      refine wpQuiet_nil ?_
      refine flowW_plain rfl ?_
      go_big_quiet_step (fail)
      refine wpQuiet_nil ?_
      refine flowW_plain rfl ?_
      go_big_quiet_step (fail)
      refine wpQuiet_nil ?_
      refine flowW_call rfl rfl ?_ ?_
      · intro W hW hF K hK
        clear kx1 kcq0 kcq1 kcq2 kcq3 kp0 kp1 kp2 kp3 kp4 kp5 kp6 kp7 kp8 kp9 kp10
        go_wp2_with fail
        refine (val_any _).mono ?_
        rintro e wq ⟨⟨r, rfl⟩, hbq⟩
        go_wp2_with fail
        exact hK _ _ ⟨_, rfl⟩ trivial hbq
      rintro v ⟨r7, rfl⟩ K hK
      go_simp
      refine hK _ ?_
      clear hK K
      refine flowW_plain rfl ?_
      go_big_quiet_step (fail)
      refine wpQuiet_nil ?_
      refine flowW_end fun w4 hw4 hF hD => ?_
      clear kx1 kcq0 kcq1 kcq2 kcq3 kp0 kp1 kp2 kp3 kp4 kp5 kp6 kp7 kp8 kp9 kp10
      simp only [List.drop_succ_cons, List.drop_zero]
      have HB4 := Lib.hid (below_then HB3.out hw4)
      have H14 := Lib.hid (bx_later hw4 H13.out)
      clear hF hD hw4 cq0 cq1 cq2 cq3 x1 p0 p1 p2 p3 p4 p5 p6 p7 p8 p9 p10
      have p0 := cell_of_box H14.out 0 rfl
      have p1 := cell_of_box H14.out 1 rfl
      have p2 := cell_of_box H14.out 2 rfl
      have p3 := cell_of_box H14.out 3 rfl
      have p4 := cell_of_box H14.out 4 rfl
      have p5 := cell_of_box H14.out 5 rfl
      have p6 := cell_of_box H14.out 6 rfl
      have p7 := cell_of_box H14.out 7 rfl
      have p8 := cell_of_box H14.out 8 rfl
      have p9 := cell_of_box H14.out 9 rfl
      have p10 := cell_of_box H14.out 10 rfl
      by_cases hr7 : r7 = 0
      case neg =>
        go_wp2_with fail
        go_ret
        exact ⟨⟨_, rfl⟩, HB4.out⟩
      subst hr7
      go_wp2_with fail
      refine (place_any _).mono ?_
      rintro e w5 ⟨⟨r5, rfl⟩, hb5⟩
      have HB5 := Lib.hid (below_then HB4.out hb5)
      clear hb5
      cases r5
      all_goals
        go_wp2_with fail
        go_ret
        exact ⟨⟨_, rfl⟩, HB5.out⟩
/-- A table: its columns, and the slice that they are. -/
structure TabM where
  nm : ByteArray
  cols : List Col
  cv : Value
  u2 : Value
  u3 : Value
  u4 : Value
  u5 : Value
def TabM.cs (t : TabM) : List Value := [.string t.nm, t.cv, t.u2, t.u3, t.u4, t.u5]
def TabM.Reads (W : World) (t : TabM) : Prop := Rd W t.cv t.cols.length (colsCs t.cols)
def SRd (W : World) (v : Value) (l : List TabM) : Prop := Rd W v l.length (l.flatMap TabM.cs) ∧ ∀ t ∈ l, t.Reads W
theorem SRd.later {W W' : World} {v : Value} {l : List TabM} (h : SRd W v l) (hb : Below W.heap.size W W') : SRd W' v l := ⟨h.1.later hb, fun t ht => Rd.later (h.2 t ht) hb⟩
theorem rd_tabm {w : World} {ao : Option Addr} {n c : Nat} {l : List TabM} (h : Rd w (.slice ao n c) n (l.flatMap TabM.cs)) (hl : n = l.length) (k : Nat) (hk : k < l.length) {x : TabM} (hx : l[k] = x) :
    ∃ b o : Nat, (∀ W, (Instr.indexAt 49 (.slice ao n c) (.int .i64 (k : Int))).run Try.prog W = .ok (.pointer (some ⟨b, o, none⟩)) W) ∧ w.cell? ⟨b, o, none⟩ = some (.string x.nm) ∧ w.cell? ⟨b, o + 1, none⟩ = some x.cv ∧ w.cell? ⟨b, o + 2, none⟩ = some x.u2 ∧ w.cell? ⟨b, o + 3, none⟩ = some x.u3 ∧ w.cell? ⟨b, o + 4, none⟩ = some x.u4 ∧ w.cell? ⟨b, o + 5, none⟩ = some x.u5 := by
  subst hl
  subst hx
  obtain ⟨A, hA, _, hlt, hc⟩ := h.elem 6 k hk (flatC_length TabM.cs 6 (fun _ => rfl) l) (by decide)
  obtain ⟨b, o, s⟩ := A
  have hs : s = none := by
    obtain ⟨u, _, hu⟩ := hc 0 (by decide)
    have := World.cell?_spot hu
    simpa [Addr.add] using this
  subst hs
  have key : ∀ j, j < 6 → ∀ u, (TabM.cs l[k])[j]? = some u → w.cell? ⟨b, o + j, none⟩ = some u := by
    intro j hj u hu
    obtain ⟨u', h1, h2⟩ := hc j hj
    rw [flatC_at TabM.cs 6 (fun _ => rfl) l k hk j hj, hu] at h1
    cases h1
    rw [Addr.add_lit] at h2
    exact h2
  exact ⟨b, o, fun W => run_indexAt_at elTab hA hk W, key 0 (by decide) _ rfl, key 1 (by decide) _ rfl, key 2 (by decide) _ rfl, key 3 (by decide) _ rfl, key 4 (by decide) _ rfl, key 5 (by decide) _ rfl⟩
set_option maxRecDepth 100000 in
set_option maxHeartbeats 8000000 in
theorem opRight_any {k t y c vk vn a b i : Int} {vs : ByteArray} {ra : Option Addr} {rn rc : Nat} {m : List Val} {tabs : List TabM} {sa : Option Addr} {sn sc : Nat} {w : World} (hl : sn = tabs.length) (hs : Rd w (.slice sa sn sc) sn (tabs.flatMap TabM.cs)) (ht : ∀ t ∈ tabs, t.Reads w) (hm : rn = m.length) (hr : Rd w (.slice ra rn rc) rn (rowCs m)) :
    Calls Try.prog 56 #[.agg #[.slice sa sn sc], .agg #[.int .i64 k, .int .i64 t, .int .i64 y, .int .i64 c, .slice ra rn rc, .int .i64 vk, .int .i64 vn, .string vs, .int .i64 a, .int .i64 b, .int .i64 i]] w (SomeN w) := by
  have HL := Lib.hid hl
  have HS := Lib.hid hs
  have HT := Lib.hid ht
  have HM := Lib.hid hm
  have HR := Lib.hid hr
  have hsm : sn ≤ maxLen := by obtain ⟨_, _, hv, h1, h2, -, -⟩ := id hs; cases hv; omega
  have hrm : rn ≤ maxLen := by obtain ⟨_, _, hv, h1, h2, -, -⟩ := id hr; cases hv; omega
  unfold maxLen at hsm hrm
  clear hl hs ht hm hr
  go_enter Try.func56, Try.ntmps56
  go_upto_region 1 with fail
  obtain ⟨w2, hw2⟩ : ∃ w2, (w.alloc (.cells #[.slice sa sn sc] 51)).alloc (.cells #[.int .i64 k, .int .i64 t, .int .i64 y, .int .i64 c, .slice ra rn rc, .int .i64 vk, .int .i64 vn, .string vs, .int .i64 a, .int .i64 b, .int .i64 i] 89) = w2 := ⟨_, rfl⟩
  have hb2 : Below w.heap.size w w2 := by rw [← hw2]; exact below_then (below_alloc _ _) (below_alloc _ _)
  have b0 : Bx w2 w.heap.size #[.slice sa sn sc] 51 := by rw [← hw2]; exact bx_later (below_alloc _ _) (bx_new rfl)
  have b1 : Bx w2 (w.heap.size + 1) #[.int .i64 k, .int .i64 t, .int .i64 y, .int .i64 c, .slice ra rn rc, .int .i64 vk, .int .i64 vn, .string vs, .int .i64 a, .int .i64 b, .int .i64 i] 89 := by rw [← hw2]; exact bx_new (by simp)
  rw [hw2]
  have HB2 := Lib.hid hb2
  have H0 := Lib.hid b0
  have H1 := Lib.hid b1
  have s0 := cell_of_box b0 0 rfl
  have p0 := cell_of_box b1 0 rfl; have p1 := cell_of_box b1 1 rfl; have p2 := cell_of_box b1 2 rfl; have p3 := cell_of_box b1 3 rfl; have p4 := cell_of_box b1 4 rfl; have p5 := cell_of_box b1 5 rfl; have p6 := cell_of_box b1 6 rfl; have p7 := cell_of_box b1 7 rfl; have p8 := cell_of_box b1 8 rfl; have p9 := cell_of_box b1 9 rfl; have p10 := cell_of_box b1 10 rfl
  clear hw2 hb2 b0 b1
  go_wp2_with fail
  cases hk : inQ3 k 1 8
  · have HK1 := Lib.hid hk
    clear hk
    refine (within_b _ HK1.out).mono ?_
    rintro e w3 ⟨rfl, rfl⟩
    go_wp2_with fail
    go_ret
    exact ⟨⟨_, rfl⟩, HB2.out⟩
  have HK1 := Lib.hid hk
  clear hk
  refine (within_b _ HK1.out).mono ?_
  rintro e w3 ⟨rfl, rfl⟩
  go_wp2_with fail
  cases hk : inQ3 t 0 ((sn : Int) - 1)
  · have HK2 := Lib.hid hk
    clear hk
    refine (within_b _ HK2.out).mono ?_
    rintro e w3 ⟨rfl, rfl⟩
    go_wp2_with fail
    go_ret
    exact ⟨⟨_, rfl⟩, HB2.out⟩
  have ht0 : 0 ≤ t ∧ t < (sn : Int) := by unfold inQ3 at hk; simp at hk; omega
  have HK2 := Lib.hid hk
  clear hk
  refine (within_b _ HK2.out).mono ?_
  rintro e w3 ⟨rfl, rfl⟩
  obtain ⟨j, rfl⟩ : ∃ j : Nat, t = (j : Int) := ⟨t.toNat, by omega⟩
  have hj1 : j < sn := by omega
  have hj2 : (j : Int) < (sn : Int) := ht0.2
  clear ht0
  obtain ⟨tb, htb⟩ : ∃ tb, tabs[j]'(by have := HL.out; omega) = tb := ⟨_, rfl⟩
  have htm : tb.Reads w := HT.out tb (by rw [← htb]; exact List.getElem_mem _)
  obtain ⟨tn, cols, cv, u2, u3, u4, u5⟩ := tb
  obtain ⟨bq, oq, hiq, cq0, cq1, cq2, cq3, cq4, cq5⟩ := rd_tabm (HS.out.later HB2.out) HL.out j (by have := HL.out; omega) htb
  simp only [] at cq0 cq1 cq2 cq3 cq4 cq5
  unfold TabM.Reads at htm
  simp only [] at htm
  obtain ⟨ca, cc, rfl, -, -, -, -⟩ := id htm
  obtain ⟨cn, hcn⟩ : ∃ cn, cols.length = cn := ⟨_, rfl⟩
  rw [hcn] at htm cq1
  have HTM := Lib.hid htm
  have HCN := Lib.hid hcn.symm
  clear htm hcn htb
  by_cases hk : k = 1
  · subst hk
    go_wp2_with fail
    refine wp_region_flow (by kernel_rfl) 9 [(7, ⟨fun v => ∃ r : Int, v = .int .i64 r, fun _ _ _ _ => True⟩)] (by kernel_rfl) ?_ ?_ ?_
    · intro x hx
      simp only [List.mem_cons, List.not_mem_nil, or_false] at hx
      subst hx
      exact ⟨_, 0, rfl⟩
    · intro x hx v lo hi w w' h hb
      simp only [List.mem_cons, List.not_mem_nil, or_false] at hx
      subst hx
      exact trivial
    · intro lo hi
      have ks0 := cell_regrown s0
      have kcq0 := cell_regrown cq0
      have kcq1 := cell_regrown cq1
      have kcq2 := cell_regrown cq2
      have kcq3 := cell_regrown cq3
      have kcq4 := cell_regrown cq4
      have kcq5 := cell_regrown cq5
      have kp0 := cell_regrown p0
      have kp1 := cell_regrown p1
      have kp2 := cell_regrown p2
      have kp3 := cell_regrown p3
      have kp4 := cell_regrown p4
      have kp5 := cell_regrown p5
      have kp6 := cell_regrown p6
      have kp7 := cell_regrown p7
      have kp8 := cell_regrown p8
      have kp9 := cell_regrown p9
      have kp10 := cell_regrown p10
      refine flowW_plain rfl ?_
      go_big_quiet_step (fail)
      refine wpQuiet_nil ?_
      refine flowW_plain rfl ?_
      go_big_quiet_step (fail)
      refine wpQuiet_nil ?_
      refine flowW_plain rfl ?_
      go_big_quiet_step (fail)
      refine wpQuiet_nil ?_
      refine flowW_plain rfl ?_
      go_big_quiet_step (fail)
      refine wpQuiet_nil ?_
      refine flowW_plain rfl ?_
      go_big_quiet_step (fail)
      refine wpQuiet_nil ?_
      refine flowW_plain rfl ?_
      go_big_quiet_step (fail)
      refine wpQuiet_nil ?_
      refine flowW_plain rfl ?_
      go_big_quiet_step (fail)
      refine wpQuiet_nil ?_
      refine flowW_call rfl rfl ?_ ?_
      · intro W hW hF K hK
        clear ks0 kcq0 kcq1 kcq2 kcq3 kcq4 kcq5 kp0 kp1 kp2 kp3 kp4 kp5 kp6 kp7 kp8 kp9 kp10
        go_wp2_with fail
        refine (insert_any HCN.out HM.out (HTM.out.later (below_then HB2.out hW)) (HR.out.later (below_then HB2.out hW))).mono ?_
        rintro e wq ⟨⟨r, rfl⟩, hbq⟩
        go_wp2_with fail
        exact hK _ _ ⟨_, rfl⟩ trivial hbq
      rintro v ⟨r7, rfl⟩ K hK
      go_simp
      refine hK _ ?_
      clear hK K
      refine flowW_plain rfl ?_
      go_big_quiet_step (fail)
      refine wpQuiet_nil ?_
      refine flowW_end fun w3 hw3 hF hD => ?_
      clear ks0 kcq0 kcq1 kcq2 kcq3 kcq4 kcq5 kp0 kp1 kp2 kp3 kp4 kp5 kp6 kp7 kp8 kp9 kp10
      simp only [List.drop_succ_cons, List.drop_zero]
      have HB3 := Lib.hid (below_then HB2.out hw3)
      clear hF hD hw3 s0 cq0 cq1 cq2 cq3 cq4 cq5 p0 p1 p2 p3 p4 p5 p6 p7 p8 p9 p10
      go_wp2_with fail
      go_ret
      exact ⟨⟨_, rfl⟩, HB3.out⟩
  by_cases hrn : 0 < rn
  · go_wp2_with fail
    go_ret
    exact ⟨⟨_, rfl⟩, HB2.out⟩
  cases hky : inQ3 y 0 1073741823
  · have HKY := Lib.hid hky
    clear hky
    go_wp2_with fail
    refine (key_b _ HKY.out).mono ?_
    rintro e w3 ⟨rfl, rfl⟩
    go_wp2_with fail
    go_ret
    exact ⟨⟨_, rfl⟩, HB2.out⟩
  have HKY := Lib.hid hky
  clear hky
  by_cases hk8 : k = 8
  · subst hk8
    go_wp2_with fail
    refine (key_b _ HKY.out).mono ?_
    rintro e w3 ⟨rfl, rfl⟩
    go_wp2_with fail
    refine (blank_any _).mono ?_
    rintro e w3 ⟨⟨r3, rfl⟩, hb3⟩
    have HB3 := Lib.hid (below_then HB2.out hb3)
    clear hb3
    cases r3
    all_goals
      go_wp2_with fail
      go_ret
      exact ⟨⟨_, rfl⟩, HB3.out⟩
  · have hk8' : (k != 8) = true := by simp [hk8]
    clear hk8
    go_wp2_with fail
    refine (key_b _ HKY.out).mono ?_
    rintro e w3 ⟨rfl, rfl⟩
    go_wp2_with fail
    refine wp_region_flow (by kernel_rfl) 9 [(7, ⟨fun v => ∃ r : Int, v = .int .i64 r, fun _ _ _ _ => True⟩)] (by kernel_rfl) ?_ ?_ ?_
    · intro x hx
      simp only [List.mem_cons, List.not_mem_nil, or_false] at hx
      subst hx
      exact ⟨_, 0, rfl⟩
    · intro x hx v lo hi w w' h hb
      simp only [List.mem_cons, List.not_mem_nil, or_false] at hx
      subst hx
      exact trivial
    · intro lo hi
      have ks0 := cell_regrown s0
      have kcq0 := cell_regrown cq0
      have kcq1 := cell_regrown cq1
      have kcq2 := cell_regrown cq2
      have kcq3 := cell_regrown cq3
      have kcq4 := cell_regrown cq4
      have kcq5 := cell_regrown cq5
      have kp0 := cell_regrown p0
      have kp1 := cell_regrown p1
      have kp2 := cell_regrown p2
      have kp3 := cell_regrown p3
      have kp4 := cell_regrown p4
      have kp5 := cell_regrown p5
      have kp6 := cell_regrown p6
      have kp7 := cell_regrown p7
      have kp8 := cell_regrown p8
      have kp9 := cell_regrown p9
      have kp10 := cell_regrown p10
      refine flowW_plain rfl ?_
      go_big_quiet_step (fail)
      refine wpQuiet_nil ?_
      refine flowW_plain rfl ?_
      go_big_quiet_step (fail)
      refine wpQuiet_nil ?_
      refine flowW_plain rfl ?_
      go_big_quiet_step (fail)
      refine wpQuiet_nil ?_
      refine flowW_plain rfl ?_
      go_big_quiet_step (fail)
      refine wpQuiet_nil ?_
      refine flowW_plain rfl ?_
      go_big_quiet_step (fail)
      refine wpQuiet_nil ?_
      refine flowW_plain rfl ?_
      go_big_quiet_step (fail)
      refine wpQuiet_nil ?_
      refine flowW_plain rfl ?_
      go_big_quiet_step (fail)
      refine wpQuiet_nil ?_
      refine flowW_call rfl rfl ?_ ?_
      · intro W hW hF K hK
        clear ks0 kcq0 kcq1 kcq2 kcq3 kcq4 kcq5 kp0 kp1 kp2 kp3 kp4 kp5 kp6 kp7 kp8 kp9 kp10
        go_wp2_with fail
        refine (cell_any HCN.out (HTM.out.later (below_then HB2.out hW))).mono ?_
        rintro e wq ⟨⟨r, rfl⟩, hbq⟩
        go_wp2_with fail
        exact hK _ _ ⟨_, rfl⟩ trivial hbq
      rintro v ⟨r7, rfl⟩ K hK
      go_simp
      refine hK _ ?_
      clear hK K
      refine flowW_plain rfl ?_
      go_big_quiet_step (fail)
      refine wpQuiet_nil ?_
      refine flowW_end fun w3 hw3 hF hD => ?_
      clear ks0 kcq0 kcq1 kcq2 kcq3 kcq4 kcq5 kp0 kp1 kp2 kp3 kp4 kp5 kp6 kp7 kp8 kp9 kp10
      simp only [List.drop_succ_cons, List.drop_zero]
      have HB3 := Lib.hid (below_then HB2.out hw3)
      clear hF hD hw3 s0 cq0 cq1 cq2 cq3 cq4 cq5 p0 p1 p2 p3 p4 p5 p6 p7 p8 p9 p10
      go_wp2_with fail
      go_ret
      exact ⟨⟨_, rfl⟩, HB3.out⟩
end
section
open Go.RowKit Go.Sort Go.BigFrame
attribute [local irreducible] FlowW

/-- What is known of a note that may be. -/
def NoteF (fm : Bool) (no ne nh : Nat) (note : Int) : Prop := note = 0 ∨ (fm = false ∧ no = 0 ∧ ne = 0 ∧ nh = 0)
/-- What is known of a transaction that may be. -/
structure TxF (dev seq : Int) (deps : List Int) (fm : Bool) (no ne nh : Nat) (note : Int) : Prop where
  dev1 : 1 ≤ dev
  dev2 : dev ≤ 64
  seq1 : 1 ≤ seq
  seq2 : seq ≤ 1048576
  vec : rightVec deps = true
  of : ofV deps dev = seq - 1
  els : fm = true → ne = 0
  hands : fm = false → nh = 0
  note : NoteF fm no ne nh note
set_option maxRecDepth 100000 in
set_option maxHeartbeats 4000000 in
theorem note_any {dev seq time note whom upto : Int} {fm : Bool} {ad ao ae ah : Option Addr} {nd no ne nh cd co ce ch : Nat} (h1 : no ≤ 2000) (h2 : ne ≤ 2000) (h3 : nh ≤ 2000) (w : World) :
    Calls Try.prog 55 #[.agg #[.int .i64 dev, .int .i64 seq, .int .i64 time, .slice ad nd cd, .slice ao no co, .slice ae ne ce, .bool fm, .slice ah nh ch, .int .i64 note, .int .i64 whom, .int .i64 upto]] w fun e w' => (∃ r : Bool, e = .returned (.bool r) ∧ (r = true → NoteF fm no ne nh note)) ∧ Below w.heap.size w w' := by
  go_enter Try.func55, Try.ntmps55
  go_upto_region 1 with fail
  obtain ⟨w1, hw1⟩ : ∃ w1, w.alloc (.cells #[.int .i64 dev, .int .i64 seq, .int .i64 time, .slice ad nd cd, .slice ao no co, .slice ae ne ce, .bool fm, .slice ah nh ch, .int .i64 note, .int .i64 whom, .int .i64 upto] 27) = w1 := ⟨_, rfl⟩
  have hb1 : Below w.heap.size w w1 := by rw [← hw1]; exact below_alloc _ _
  have b0 : Bx w1 w.heap.size #[.int .i64 dev, .int .i64 seq, .int .i64 time, .slice ad nd cd, .slice ao no co, .slice ae ne ce, .bool fm, .slice ah nh ch, .int .i64 note, .int .i64 whom, .int .i64 upto] 27 := by rw [← hw1]; exact bx_new rfl
  rw [hw1]
  have HB1 := Lib.hid hb1
  have p0 := cell_of_box b0 0 rfl; have p1 := cell_of_box b0 1 rfl; have p2 := cell_of_box b0 2 rfl; have p3 := cell_of_box b0 3 rfl; have p4 := cell_of_box b0 4 rfl; have p5 := cell_of_box b0 5 rfl; have p6 := cell_of_box b0 6 rfl; have p7 := cell_of_box b0 7 rfl; have p8 := cell_of_box b0 8 rfl; have p9 := cell_of_box b0 9 rfl; have p10 := cell_of_box b0 10 rfl
  clear hw1 hb1 b0
  by_cases hn : note = 0
  · subst hn
    have F : Hid (NoteF fm no ne nh 0) := Lib.hid (.inl rfl)
    by_cases hwh : whom = 0
    case neg =>
      go_wp2_with fail
      go_ret
      exact ⟨⟨_, rfl, fun _ => F.out⟩, HB1.out⟩
    subst hwh
    by_cases hup : upto = 0
    case neg =>
      go_wp2_with fail
      go_ret
      exact ⟨⟨_, rfl, fun _ => F.out⟩, HB1.out⟩
    subst hup
    go_wp2_with fail
    go_ret
    exact ⟨⟨_, rfl, fun _ => F.out⟩, HB1.out⟩
  have hn' : (note == 0) = false := by simp [hn]
  clear hn
  cases fm
  case true =>
    go_wp2_with fail
    go_ret
    exact ⟨⟨_, rfl, fun h => nomatch h⟩, HB1.out⟩
  by_cases hz : no + ne + nh = 0
  case neg =>
    have hz' : ((no : Int) + (ne : Int) + (nh : Int) == 0) = false := by simp; omega
    clear hz
    go_wp2_with fail
    go_ret
    exact ⟨⟨_, rfl, fun h => nomatch h⟩, HB1.out⟩
  have F : Hid (NoteF false no ne nh note) := Lib.hid (.inr ⟨rfl, by omega, by omega, by omega⟩)
  have hz' : ((no : Int) + (ne : Int) + (nh : Int) == 0) = true := by simp; omega
  clear hz
  go_wp2_with fail
  cases hq1 : inQ3 note 1 2
  all_goals
    have HQ1 := Lib.hid hq1
    clear hq1
    refine (txIn_b _ HQ1.out).mono ?_
    rintro e w2 ⟨rfl, rfl⟩
  · go_wp2_with fail
    go_ret
    exact ⟨⟨_, rfl, fun h => nomatch h⟩, HB1.out⟩
  go_wp2_with fail
  cases hq2 : inQ3 whom 2 64
  all_goals
    have HQ2 := Lib.hid hq2
    clear hq2
    refine (txIn_b _ HQ2.out).mono ?_
    rintro e w2 ⟨rfl, rfl⟩
  · go_wp2_with fail
    go_ret
    exact ⟨⟨_, rfl, fun h => nomatch h⟩, HB1.out⟩
  go_wp2_with fail
  refine (txIn_any _ _ _ _).mono ?_
  rintro e w2 ⟨rfl, rfl⟩
  go_wp2_with fail
  go_ret
  exact ⟨⟨_, rfl, fun _ => F.out⟩, HB1.out⟩
set_option maxRecDepth 100000 in
set_option maxHeartbeats 16000000 in
theorem txRight_any {dev seq time note whom upto : Int} {fm : Bool} {ad ao ae ah : Option Addr} {nd no ne nh cd co ce ch : Nat} {deps : List Int} {ops els : List OpM} {hands : List HandT} {tabs : List TabM} {sa : Option Addr} {sn sc : Nat} {w : World}
    (hnd : nd = deps.length) (hno : no = ops.length) (hne : ne = els.length) (hnh : nh = hands.length) (hsn : sn = tabs.length)
    (hd : Rd w (.slice ad nd cd) nd (deps.map ic)) (ho : Rd w (.slice ao no co) no (ops.flatMap OpM.cs)) (hor : ∀ a ∈ ops, a.Reads w) (he : Rd w (.slice ae ne ce) ne (els.flatMap OpM.cs)) (her : ∀ a ∈ els, a.Reads w) (hh : Rd w (.slice ah nh ch) nh (hands.flatMap HandT.cs))
    (hs : Rd w (.slice sa sn sc) sn (tabs.flatMap TabM.cs)) (ht : ∀ t ∈ tabs, t.Reads w) (h1 : no ≤ 2000) (h2 : ne ≤ 2000) (h3 : nh ≤ 2000) :
    Calls Try.prog 26 #[.agg #[.slice sa sn sc], .agg #[.int .i64 dev, .int .i64 seq, .int .i64 time, .slice ad nd cd, .slice ao no co, .slice ae ne ce, .bool fm, .slice ah nh ch, .int .i64 note, .int .i64 whom, .int .i64 upto]] w fun e w' => (∃ n : Int, e = .returned (.int .i64 n) ∧ (n = 0 → TxF dev seq deps fm no ne nh note)) ∧ Below w.heap.size w w' := by
  obtain ⟨w2, hw2⟩ : ∃ w2, (w.alloc (.cells #[.slice sa sn sc] 51)).alloc (.cells #[.int .i64 dev, .int .i64 seq, .int .i64 time, .slice ad nd cd, .slice ao no co, .slice ae ne ce, .bool fm, .slice ah nh ch, .int .i64 note, .int .i64 whom, .int .i64 upto] 27) = w2 := ⟨_, rfl⟩
  have hb2 : Below w.heap.size w w2 := by rw [← hw2]; exact below_then (below_alloc _ _) (below_alloc _ _)
  have b0 : Bx w2 w.heap.size #[.slice sa sn sc] 51 := by rw [← hw2]; exact bx_later (below_alloc _ _) (bx_new rfl)
  have b1 : Bx w2 (w.heap.size + 1) #[.int .i64 dev, .int .i64 seq, .int .i64 time, .slice ad nd cd, .slice ao no co, .slice ae ne ce, .bool fm, .slice ah nh ch, .int .i64 note, .int .i64 whom, .int .i64 upto] 27 := by rw [← hw2]; exact bx_new (by simp)
  have HW := Lib.hid hw2
  have HB2 := Lib.hid hb2
  have HS := Lib.hid b0
  have HX := Lib.hid b1
  have HND := Lib.hid hnd
  have HNO := Lib.hid hno
  have HNE := Lib.hid hne
  have HNH := Lib.hid hnh
  have HSN := Lib.hid hsn
  have HD : Hid (Rd w (.slice ad nd cd) deps.length (deps.map ic)) := Lib.hid (hnd ▸ hd)
  have HOR := Lib.hid ho
  have HOE := Lib.hid hor
  have HER := Lib.hid he
  have HEE := Lib.hid her
  have HHR := Lib.hid hh
  have HSR := Lib.hid hs
  have HST := Lib.hid ht
  clear hw2 hb2 hnd hno hne hnh hsn hd ho hor he her hh hs ht
  go_enter Try.func26, Try.ntmps26
  go_upto_region 1 with fail
  rw [HW.out]
  have p0 := cell_of_box b1 0 rfl; have p1 := cell_of_box b1 1 rfl; have p2 := cell_of_box b1 2 rfl; have p3 := cell_of_box b1 3 rfl; have p4 := cell_of_box b1 4 rfl; have p5 := cell_of_box b1 5 rfl; have p6 := cell_of_box b1 6 rfl; have p7 := cell_of_box b1 7 rfl; have p8 := cell_of_box b1 8 rfl; have p9 := cell_of_box b1 9 rfl; have p10 := cell_of_box b1 10 rfl
  clear b0 b1
  go_wp2_with fail
  cases hq : inQ3 dev 1 64
  · have HQ := Lib.hid hq
    clear hq
    refine (txIn_b _ HQ.out).mono ?_
    rintro e w3 ⟨rfl, rfl⟩
    go_wp2_with fail
    go_ret
    exact ⟨⟨_, rfl, (fun h => absurd h (by decide))⟩, HB2.out⟩
  have D1 : 1 ≤ dev ∧ dev ≤ 64 := by unfold inQ3 at hq; simpa using hq
  have HQ := Lib.hid hq
  clear hq
  refine (txIn_b _ HQ.out).mono ?_
  rintro e w3 ⟨rfl, rfl⟩
  clear HQ
  go_wp2_with fail
  cases hq : inQ3 seq 1 1048576
  · have HQ := Lib.hid hq
    clear hq
    refine (txIn_b _ HQ.out).mono ?_
    rintro e w3 ⟨rfl, rfl⟩
    go_wp2_with fail
    go_ret
    exact ⟨⟨_, rfl, (fun h => absurd h (by decide))⟩, HB2.out⟩
  have D2 : 1 ≤ seq ∧ seq ≤ 1048576 := by unfold inQ3 at hq; simpa using hq
  have HQ := Lib.hid hq
  clear hq
  refine (txIn_b _ HQ.out).mono ?_
  rintro e w3 ⟨rfl, rfl⟩
  clear HQ
  go_wp2_with fail
  cases hq : inQ3 time 1 1125899906842624
  · have HQ := Lib.hid hq
    clear hq
    refine (txIn_b _ HQ.out).mono ?_
    rintro e w3 ⟨rfl, rfl⟩
    go_wp2_with fail
    go_ret
    exact ⟨⟨_, rfl, (fun h => absurd h (by decide))⟩, HB2.out⟩
  have D3 : 1 ≤ time ∧ time ≤ 1125899906842624 := by unfold inQ3 at hq; simpa using hq
  have HQ := Lib.hid hq
  clear hq
  refine (txIn_b _ HQ.out).mono ?_
  rintro e w3 ⟨rfl, rfl⟩
  clear HQ
  go_wp2_with fail
  cases hv : rightVec deps
  · have HV := Lib.hid hv
    clear hv
    refine wp_region_flow (by kernel_rfl) 16 [(2, ⟨fun v => v = .bool false, fun _ _ _ _ => True⟩), (9, ⟨fun v => v = .int .i64 0, fun _ _ _ _ => True⟩)] (by kernel_rfl) ?_ ?_ ?_
    · intro x hx
      simp only [List.mem_cons, List.not_mem_nil, or_false] at hx
      rcases hx with rfl | rfl
      · exact ⟨_, rfl⟩
      · exact ⟨_, rfl⟩
    · intro x hx v lo hi w w' h hb
      simp only [List.mem_cons, List.not_mem_nil, or_false] at hx
      rcases hx with rfl | rfl
      · exact trivial
      · exact trivial
    · intro lo hi
      have kp0 := cell_regrown p0
      have kp1 := cell_regrown p1
      have kp2 := cell_regrown p2
      have kp3 := cell_regrown p3
      have kp4 := cell_regrown p4
      have kp5 := cell_regrown p5
      have kp6 := cell_regrown p6
      have kp7 := cell_regrown p7
      have kp8 := cell_regrown p8
      have kp9 := cell_regrown p9
      have kp10 := cell_regrown p10
      refine flowW_plain rfl ?_
      go_big_quiet_step (fail)
      refine wpQuiet_nil ?_
      refine flowW_plain rfl ?_
      go_big_quiet_step (fail)
      refine wpQuiet_nil ?_
      refine flowW_call rfl rfl ?_ ?_
      · intro W hW hF K hK
        clear kp0 kp1 kp2 kp3 kp4 kp5 kp6 kp7 kp8 kp9 kp10
        go_wp2_with fail
        refine (vecRight_b false HV.out (HD.out.later (below_then HB2.out hW))).mono ?_
        rintro e wq ⟨rfl, hbq⟩
        go_wp2_with fail
        exact hK _ _ rfl trivial hbq
      rintro v rfl K hK
      go_simp
      refine hK _ ?_
      clear hK K
      refine flowW_plain rfl ?_
      go_big_quiet_step (fail)
      refine wpQuiet_nil ?_
      refine flowW_plain rfl ?_
      go_big_quiet_step (fail)
      refine wpQuiet_nil ?_
      refine flowW_skip rfl ?_
      go_big_quiet_step (fail)
      refine wpQuiet_nil ?_
      refine flowW_skip rfl ?_
      go_big_quiet_step (fail)
      refine wpQuiet_nil ?_
      refine flowW_skip rfl ?_
      go_big_quiet_step (fail)
      refine wpQuiet_nil ?_
      refine flowW_skip rfl ?_
      go_big_quiet_step (fail)
      refine wpQuiet_nil ?_
      refine flowW_skip rfl ?_
      go_big_quiet_step (fail)
      refine wpQuiet_nil ?_
      refine flowW_skip rfl ?_
      go_big_quiet_step (fail)
      refine wpQuiet_nil ?_
      refine flowW_skip rfl ?_
      go_big_quiet_step (fail)
      refine wpQuiet_nil ?_
      refine flowW_skip rfl ?_
      go_big_quiet_step (fail)
      refine wpQuiet_nil ?_
      refine flowW_skip rfl ?_
      go_big_quiet_step (fail)
      refine wpQuiet_nil ?_
      refine flowW_plain rfl ?_
      go_big_quiet_step (fail)
      refine wpQuiet_nil ?_
      refine flowW_plain rfl ?_
      go_big_quiet_step (fail)
      refine wpQuiet_nil ?_
      refine flowW_end fun w3 hw3 hF hD => ?_
      clear kp0 kp1 kp2 kp3 kp4 kp5 kp6 kp7 kp8 kp9 kp10
      simp only [List.drop_succ_cons, List.drop_zero]
      have HB3 := Lib.hid (below_then HB2.out hw3)
      have HS3 := Lib.hid (bx_later hw3 HS.out)
      have HX3 := Lib.hid (bx_later hw3 HX.out)
      clear hF hD hw3 p0 p1 p2 p3 p4 p5 p6 p7 p8 p9 p10
      have p0 := cell_of_box HX3.out 0 rfl; have p1 := cell_of_box HX3.out 1 rfl; have p2 := cell_of_box HX3.out 2 rfl; have p3 := cell_of_box HX3.out 3 rfl; have p4 := cell_of_box HX3.out 4 rfl; have p5 := cell_of_box HX3.out 5 rfl; have p6 := cell_of_box HX3.out 6 rfl; have p7 := cell_of_box HX3.out 7 rfl; have p8 := cell_of_box HX3.out 8 rfl; have p9 := cell_of_box HX3.out 9 rfl; have p10 := cell_of_box HX3.out 10 rfl
      go_wp2_with fail
      go_ret
      exact ⟨⟨_, rfl, (fun h => absurd h (by decide))⟩, HB3.out⟩
  have HV := Lib.hid hv
  clear hv
  by_cases hof : ofV deps dev = seq - 1
  case neg =>
    obtain ⟨f, hf⟩ : ∃ f, ofV deps dev = f := ⟨_, rfl⟩
    rw [hf] at hof
    have hof' : (f != seq - 1) = true := by simp [hof]
    have HO := Lib.hid hf
    clear hof hf
    refine wp_region_flow (by kernel_rfl) 16 [(2, ⟨fun v => v = .bool true, fun _ _ _ _ => True⟩), (9, ⟨fun v => v = .int .i64 f, fun _ _ _ _ => True⟩)] (by kernel_rfl) ?_ ?_ ?_
    · intro x hx
      simp only [List.mem_cons, List.not_mem_nil, or_false] at hx
      rcases hx with rfl | rfl
      · exact ⟨_, rfl⟩
      · exact ⟨_, rfl⟩
    · intro x hx v lo hi w w' h hb
      simp only [List.mem_cons, List.not_mem_nil, or_false] at hx
      rcases hx with rfl | rfl
      · exact trivial
      · exact trivial
    · intro lo hi
      have kp0 := cell_regrown p0
      have kp1 := cell_regrown p1
      have kp2 := cell_regrown p2
      have kp3 := cell_regrown p3
      have kp4 := cell_regrown p4
      have kp5 := cell_regrown p5
      have kp6 := cell_regrown p6
      have kp7 := cell_regrown p7
      have kp8 := cell_regrown p8
      have kp9 := cell_regrown p9
      have kp10 := cell_regrown p10
      refine flowW_plain rfl ?_
      go_big_quiet_step (fail)
      refine wpQuiet_nil ?_
      refine flowW_plain rfl ?_
      go_big_quiet_step (fail)
      refine wpQuiet_nil ?_
      refine flowW_call rfl rfl ?_ ?_
      · intro W hW hF K hK
        clear kp0 kp1 kp2 kp3 kp4 kp5 kp6 kp7 kp8 kp9 kp10
        go_wp2_with fail
        refine (vecRight_b true HV.out (HD.out.later (below_then HB2.out hW))).mono ?_
        rintro e wq ⟨rfl, hbq⟩
        go_wp2_with fail
        exact hK _ _ rfl trivial hbq
      rintro v rfl K hK
      go_simp
      refine hK _ ?_
      clear hK K
      refine flowW_plain rfl ?_
      go_big_quiet_step (fail)
      refine wpQuiet_nil ?_
      refine flowW_plain rfl ?_
      go_big_quiet_step (fail)
      refine wpQuiet_nil ?_
      refine flowW_plain rfl ?_
      go_big_quiet_step (fail)
      refine wpQuiet_nil ?_
      refine flowW_plain rfl ?_
      go_big_quiet_step (fail)
      refine wpQuiet_nil ?_
      refine flowW_plain rfl ?_
      go_big_quiet_step (fail)
      refine wpQuiet_nil ?_
      refine flowW_plain rfl ?_
      go_big_quiet_step (fail)
      refine wpQuiet_nil ?_
      refine flowW_call rfl rfl ?_ ?_
      · intro W hW hF K hK
        clear kp0 kp1 kp2 kp3 kp4 kp5 kp6 kp7 kp8 kp9 kp10
        go_wp2_with fail
        refine (ofV_b _ HO.out (HD.out.later (below_then HB2.out hW))).mono ?_
        rintro e wq ⟨rfl, hbq⟩
        go_wp2_with fail
        exact hK _ _ rfl trivial hbq
      rintro v rfl K hK
      go_simp
      refine hK _ ?_
      clear hK K
      refine flowW_plain rfl ?_
      go_big_quiet_step (fail)
      refine wpQuiet_nil ?_
      refine flowW_plain rfl ?_
      go_big_quiet_step (fail)
      refine wpQuiet_nil ?_
      refine flowW_plain rfl ?_
      go_big_quiet_step (fail)
      refine wpQuiet_nil ?_
      refine flowW_plain rfl ?_
      go_big_quiet_step (fail)
      refine wpQuiet_nil ?_
      refine flowW_plain rfl ?_
      go_big_quiet_step (fail)
      refine wpQuiet_nil ?_
      refine flowW_plain rfl ?_
      go_big_quiet_step (fail)
      refine wpQuiet_nil ?_
      refine flowW_end fun w3 hw3 hF hD => ?_
      clear kp0 kp1 kp2 kp3 kp4 kp5 kp6 kp7 kp8 kp9 kp10
      simp only [List.drop_succ_cons, List.drop_zero]
      have HB3 := Lib.hid (below_then HB2.out hw3)
      have HS3 := Lib.hid (bx_later hw3 HS.out)
      have HX3 := Lib.hid (bx_later hw3 HX.out)
      clear hF hD hw3 p0 p1 p2 p3 p4 p5 p6 p7 p8 p9 p10
      have p0 := cell_of_box HX3.out 0 rfl; have p1 := cell_of_box HX3.out 1 rfl; have p2 := cell_of_box HX3.out 2 rfl; have p3 := cell_of_box HX3.out 3 rfl; have p4 := cell_of_box HX3.out 4 rfl; have p5 := cell_of_box HX3.out 5 rfl; have p6 := cell_of_box HX3.out 6 rfl; have p7 := cell_of_box HX3.out 7 rfl; have p8 := cell_of_box HX3.out 8 rfl; have p9 := cell_of_box HX3.out 9 rfl; have p10 := cell_of_box HX3.out 10 rfl
      go_wp2_with fail
      go_ret
      exact ⟨⟨_, rfl, (fun h => absurd h (by decide))⟩, HB3.out⟩
  have HO := Lib.hid hof
  clear hof
  refine wp_region_flow (by kernel_rfl) 16 [(2, ⟨fun v => v = .bool true, fun _ _ _ _ => True⟩), (9, ⟨fun v => v = .int .i64 (seq - 1), fun _ _ _ _ => True⟩)] (by kernel_rfl) ?_ ?_ ?_
  · intro x hx
    simp only [List.mem_cons, List.not_mem_nil, or_false] at hx
    rcases hx with rfl | rfl
    · exact ⟨_, rfl⟩
    · exact ⟨_, rfl⟩
  · intro x hx v lo hi w w' h hb
    simp only [List.mem_cons, List.not_mem_nil, or_false] at hx
    rcases hx with rfl | rfl
    · exact trivial
    · exact trivial
  · intro lo hi
    have kp0 := cell_regrown p0
    have kp1 := cell_regrown p1
    have kp2 := cell_regrown p2
    have kp3 := cell_regrown p3
    have kp4 := cell_regrown p4
    have kp5 := cell_regrown p5
    have kp6 := cell_regrown p6
    have kp7 := cell_regrown p7
    have kp8 := cell_regrown p8
    have kp9 := cell_regrown p9
    have kp10 := cell_regrown p10
    refine flowW_plain rfl ?_
    go_big_quiet_step (fail)
    refine wpQuiet_nil ?_
    refine flowW_plain rfl ?_
    go_big_quiet_step (fail)
    refine wpQuiet_nil ?_
    refine flowW_call rfl rfl ?_ ?_
    · intro W hW hF K hK
      clear kp0 kp1 kp2 kp3 kp4 kp5 kp6 kp7 kp8 kp9 kp10
      go_wp2_with fail
      refine (vecRight_b true HV.out (HD.out.later (below_then HB2.out hW))).mono ?_
      rintro e wq ⟨rfl, hbq⟩
      go_wp2_with fail
      exact hK _ _ rfl trivial hbq
    rintro v rfl K hK
    go_simp
    refine hK _ ?_
    clear hK K
    refine flowW_plain rfl ?_
    go_big_quiet_step (fail)
    refine wpQuiet_nil ?_
    refine flowW_plain rfl ?_
    go_big_quiet_step (fail)
    refine wpQuiet_nil ?_
    refine flowW_plain rfl ?_
    go_big_quiet_step (fail)
    refine wpQuiet_nil ?_
    refine flowW_plain rfl ?_
    go_big_quiet_step (fail)
    refine wpQuiet_nil ?_
    refine flowW_plain rfl ?_
    go_big_quiet_step (fail)
    refine wpQuiet_nil ?_
    refine flowW_plain rfl ?_
    go_big_quiet_step (fail)
    refine wpQuiet_nil ?_
    refine flowW_call rfl rfl ?_ ?_
    · intro W hW hF K hK
      clear kp0 kp1 kp2 kp3 kp4 kp5 kp6 kp7 kp8 kp9 kp10
      go_wp2_with fail
      refine (ofV_b _ HO.out (HD.out.later (below_then HB2.out hW))).mono ?_
      rintro e wq ⟨rfl, hbq⟩
      go_wp2_with fail
      exact hK _ _ rfl trivial hbq
    rintro v rfl K hK
    go_simp
    refine hK _ ?_
    clear hK K
    refine flowW_plain rfl ?_
    go_big_quiet_step (fail)
    refine wpQuiet_nil ?_
    refine flowW_plain rfl ?_
    go_big_quiet_step (fail)
    refine wpQuiet_nil ?_
    refine flowW_plain rfl ?_
    go_big_quiet_step (fail)
    refine wpQuiet_nil ?_
    refine flowW_plain rfl ?_
    go_big_quiet_step (fail)
    refine wpQuiet_nil ?_
    refine flowW_plain rfl ?_
    go_big_quiet_step (fail)
    refine wpQuiet_nil ?_
    refine flowW_plain rfl ?_
    go_big_quiet_step (fail)
    refine wpQuiet_nil ?_
    refine flowW_end fun w3 hw3 hF hD => ?_
    clear kp0 kp1 kp2 kp3 kp4 kp5 kp6 kp7 kp8 kp9 kp10
    simp only [List.drop_succ_cons, List.drop_zero]
    have HB3 := Lib.hid (below_then HB2.out hw3)
    have HS3 := Lib.hid (bx_later hw3 HS.out)
    have HX3 := Lib.hid (bx_later hw3 HX.out)
    clear hF hD hw3 p0 p1 p2 p3 p4 p5 p6 p7 p8 p9 p10
    have p0 := cell_of_box HX3.out 0 rfl; have p1 := cell_of_box HX3.out 1 rfl; have p2 := cell_of_box HX3.out 2 rfl; have p3 := cell_of_box HX3.out 3 rfl; have p4 := cell_of_box HX3.out 4 rfl; have p5 := cell_of_box HX3.out 5 rfl; have p6 := cell_of_box HX3.out 6 rfl; have p7 := cell_of_box HX3.out 7 rfl; have p8 := cell_of_box HX3.out 8 rfl; have p9 := cell_of_box HX3.out 9 rfl; have p10 := cell_of_box HX3.out 10 rfl
    have F0 : Hid (1 ≤ dev ∧ dev ≤ 64 ∧ 1 ≤ seq ∧ seq ≤ 1048576) := Lib.hid ⟨D1.1, D1.2, D2.1, D2.2⟩
    clear D1 D2 D3
    by_cases hb1 : 2000 < (no : Int) + (ne : Int)
    · go_wp2_with fail
      go_ret
      exact ⟨⟨_, rfl, (fun h => absurd h (by decide))⟩, HB3.out⟩
    have hb2 : ¬ 2000 < (nh : Int) := by omega
    obtain ⟨kl, hkl⟩ : ∃ kl, decide (0 < (ne : Int)) = kl := ⟨_, rfl⟩
    obtain ⟨kh, hkh⟩ : ∃ kh, decide (0 < (nh : Int)) = kh := ⟨_, rfl⟩
    by_cases hbad : (fm = true ∧ 0 < ne) ∨ (fm = false ∧ 0 < nh)
    · rcases hbad with ⟨rfl, hz⟩ | ⟨rfl, hz⟩
      · have hz' : 0 < (ne : Int) := by omega
        go_wp2_with fail
        go_ret
        exact ⟨⟨_, rfl, (fun h => absurd h (by decide))⟩, HB3.out⟩
      · have hz' : 0 < (nh : Int) := by omega
        go_wp2_with fail
        go_ret
        exact ⟨⟨_, rfl, (fun h => absurd h (by decide))⟩, HB3.out⟩
    have G1 : Hid (fm = true → ne = 0) := Lib.hid (fun h => by have := not_or.1 hbad; have := this.1; simp [h] at this; omega)
    have G2 : Hid (fm = false → nh = 0) := Lib.hid (fun h => by have := not_or.1 hbad; have := this.2; simp [h] at this; omega)
    clear hbad hkl hkh
    cases fm
    · have hz0 : ¬ 0 < (nh : Int) := by have := G2.out rfl; omega
      go_wp2_with fail
      refine (note_any h1 h2 h3 _).mono ?_
      rintro e w4 ⟨⟨r, rfl, hN⟩, hb4⟩
      clear hz0
      rename (¬ 0 < nh) => hnn
      clear hnn
      have HB4 := Lib.hid (below_then HB3.out hb4)
      have HS4 := Lib.hid (bx_later hb4 HS3.out)
      have HX4 := Lib.hid (bx_later hb4 HX3.out)
      clear hb4 p0 p1 p2 p3 p4 p5 p6 p7 p8 p9 p10
      have p0 := cell_of_box HX4.out 0 rfl; have p1 := cell_of_box HX4.out 1 rfl; have p2 := cell_of_box HX4.out 2 rfl; have p3 := cell_of_box HX4.out 3 rfl; have p4 := cell_of_box HX4.out 4 rfl; have p5 := cell_of_box HX4.out 5 rfl; have p6 := cell_of_box HX4.out 6 rfl; have p7 := cell_of_box HX4.out 7 rfl; have p8 := cell_of_box HX4.out 8 rfl; have p9 := cell_of_box HX4.out 9 rfl; have p10 := cell_of_box HX4.out 10 rfl
      cases r
      · go_wp2_with fail
        go_ret
        exact ⟨⟨_, rfl, (fun h => absurd h (by decide))⟩, HB4.out⟩
      have F : Hid (TxF dev seq deps false no ne nh note) := Lib.hid ⟨F0.out.1, F0.out.2.1, F0.out.2.2.1, F0.out.2.2.2, HV.out, HO.out, (fun hh => nomatch hh), (fun _ => G2.out (by simp)), hN rfl⟩
      clear hN F0 G1 G2
      go_wp2_with fail
      go_loopw [87] (fun vi wr => ∃ k : Nat, k ≤ nh ∧ vi = .int .i64 k ∧ Hid (Below w.heap.size w wr) ∧ Hid (Bx wr w.heap.size #[.slice sa sn sc] 51) ∧ Hid (Bx wr (w.heap.size + 1) #[.int .i64 dev, .int .i64 seq, .int .i64 time, .slice ad nd cd, .slice ao no co, .slice ae ne ce, .bool false, .slice ah nh ch, .int .i64 note, .int .i64 whom, .int .i64 upto] 27)) (fun vi _ => nh - (intOf vi).toNat)
      case atStart => exact ⟨0, Nat.zero_le _, rfl, HB4.out, HS4.out, HX4.out⟩
      case round =>
        obtain ⟨k, hk, rfl, HB5, HS5, HX5⟩ := hrel
        rename World => w5
        clear p0 p1 p2 p3 p4 p5 p6 p7 p8 p9 p10
        have p0 := cell_of_box HX5.out 0 rfl; have p1 := cell_of_box HX5.out 1 rfl; have p2 := cell_of_box HX5.out 2 rfl; have p3 := cell_of_box HX5.out 3 rfl; have p4 := cell_of_box HX5.out 4 rfl; have p5 := cell_of_box HX5.out 5 rfl; have p6 := cell_of_box HX5.out 6 rfl; have p7 := cell_of_box HX5.out 7 rfl; have p8 := cell_of_box HX5.out 8 rfl; have p9 := cell_of_box HX5.out 9 rfl; have p10 := cell_of_box HX5.out 10 rfl
        by_cases hlt : k < nh
        case neg =>
          have hkn : k = nh := by omega
          have hkn' : ¬ (k : Int) < (nh : Int) := by omega
          go_wp2_with fail
          go_loopw [108] (fun vi wr => (vi = .int .i64 0 ∨ vi = .int .i64 1 ∨ vi = .int .i64 2) ∧ Hid (Below w.heap.size w wr) ∧ Hid (Bx wr w.heap.size #[.slice sa sn sc] 51)) (fun vi _ => 2 - (intOf vi).toNat)
          case atStart => exact ⟨.inl rfl, HB5.out, HS5.out⟩
          case round =>
            obtain ⟨hvi, HB6, HS6⟩ := hrel
            rename World => w6
            clear p0 p1 p2 p3 p4 p5 p6 p7 p8 p9 p10
            have x0 : ∀ W, (Instr.index 102 (.agg #[.slice ao no co, .slice ae ne ce]) (.int .i64 0)).run Try.prog W = .ok (.slice ao no co) W := fun _ => by kernel_rfl
            have x1 : ∀ W, (Instr.index 102 (.agg #[.slice ao no co, .slice ae ne ce]) (.int .i64 1)).run Try.prog W = .ok (.slice ae ne ce) W := fun _ => by kernel_rfl
            rcases hvi with rfl | rfl | rfl
            · go_wp2_with fail
              go_loopw [113] (fun vi wr => ∃ j : Nat, j ≤ no ∧ vi = .int .i64 j ∧ Hid (Below w.heap.size w wr) ∧ Hid (Bx wr w.heap.size #[.slice sa sn sc] 51)) (fun vi _ => no - (intOf vi).toNat)
              case atStart => exact ⟨0, Nat.zero_le _, rfl, HB6.out, HS6.out⟩
              case round =>
                obtain ⟨j, hj, rfl, HB7, HS7⟩ := hrel
                rename World => w7
                by_cases hlt : j < no
                case neg =>
                  have hjn : ¬ (j : Int) < (no : Int) := by omega
                  clear hlt
                  go_wp2_with fail
                  go_roundw
                  case rel => exact ⟨.inr (.inl rfl), HB7.out, HS7.out⟩
                  case measure => simp [intOf]
                have hjl : j < ops.length := by have := HNO.out; omega
                have hj2 : (j : Int) < (no : Int) := by omega
                obtain ⟨x, hx⟩ : ∃ x, ops[j] = x := ⟨_, rfl⟩
                have hxr : x.Reads w := HOE.out x (hx ▸ List.getElem_mem hjl)
                obtain ⟨b, oo, hi, c0, c1, c2, c3, c4, c5, c6, c7, c8, c9, c10, _⟩ := rd_op (HOR.out.later HB7.out) HNO.out j hjl hx
                obtain ⟨⟨xk, xt, xy, xc, xr, ⟨vk, vn, vs⟩, ⟨xa, xb⟩, xi⟩, rv⟩ := x
                obtain ⟨rn, hrn⟩ : ∃ rn, rn = xr.length := ⟨_, rfl⟩
                have hxq : Rd w rv rn (rowCs xr) := by rw [hrn]; exact hxr
                clear hxr hx
                obtain ⟨ra, rc, hrv, -⟩ := id hxq
                subst hrv
                have hi' : ∀ W, (Instr.indexAt 24 (.slice ao no co) (.int .i64 (j : Int))).run Try.prog W = .ok (.pointer (some ⟨b, oo, none⟩)) W := hi
                clear hi
                have e0 : w7.cell? ⟨b, oo, none⟩ = some (.int .i64 xk) := c0
                have e1 : w7.cell? ⟨b, oo + 1, none⟩ = some (.int .i64 xt) := c1
                have e2 : w7.cell? ⟨b, oo + 2, none⟩ = some (.int .i64 xy) := c2
                have e3 : w7.cell? ⟨b, oo + 3, none⟩ = some (.int .i64 xc) := c3
                have e4 : w7.cell? ⟨b, oo + 4, none⟩ = some (.slice ra rn rc) := c4
                have e5 : w7.cell? ⟨b, oo + 5, none⟩ = some (.int .i64 vk) := c5
                have e6 : w7.cell? ⟨b, oo + 6, none⟩ = some (.int .i64 vn) := c6
                have e7 : w7.cell? ⟨b, oo + 7, none⟩ = some (.string vs) := c7
                have e8 : w7.cell? ⟨b, oo + 8, none⟩ = some (.int .i64 xa) := c8
                have e9 : w7.cell? ⟨b, oo + 9, none⟩ = some (.int .i64 xb) := c9
                have e10 : w7.cell? ⟨b, oo + 10, none⟩ = some (.int .i64 xi) := c10
                clear c0 c1 c2 c3 c4 c5 c6 c7 c8 c9 c10
                obtain ⟨w8, hw8⟩ : ∃ w8, w7.alloc (.cells #[.int .i64 xk, .int .i64 xt, .int .i64 xy, .int .i64 xc, .slice ra rn rc, .int .i64 vk, .int .i64 vn, .string vs, .int .i64 xa, .int .i64 xb, .int .i64 xi] 89) = w8 := ⟨_, rfl⟩
                have hb8 : Below w7.heap.size w7 w8 := by rw [← hw8]; exact below_alloc _ _
                have s0 := cell_of_box HS7.out 0 rfl
                have s1 := cell_of_box (bx_later hb8 HS7.out) 0 rfl
                have C := Lib.hid (opRight_any (w := w8) (k := xk) (t := xt) (y := xy) (c := xc) (vk := vk) (vn := vn) (vs := vs) (a := xa) (b := xb) (i := xi) HSN.out (HSR.out.later (below_then HB7.out hb8)) (fun t ht => (HST.out t ht).later (below_then HB7.out hb8)) hrn (hxq.later (below_then HB7.out hb8)))
                have HB8 := Lib.hid (below_then HB7.out hb8)
                have HS8 := Lib.hid (bx_later hb8 HS7.out)
                have bj : Bx w8 w7.heap.size #[.int .i64 xk, .int .i64 xt, .int .i64 xy, .int .i64 xc, .slice ra rn rc, .int .i64 vk, .int .i64 vn, .string vs, .int .i64 xa, .int .i64 xb, .int .i64 xi] 89 := by rw [← hw8]; exact bx_new rfl
                have HW8 := Lib.hid hw8
                clear hw8 hb8 hxq hrn
                go_upto_region 23 with fail
                rw [HW8.out]
                clear e0 e1 e2 e3 e4 e5 e6 e7 e8 e9 e10
                have e0 := cell_of_box bj 0 rfl
                have e1 := cell_of_box bj 1 rfl
                have e2 := cell_of_box bj 2 rfl
                have e3 := cell_of_box bj 3 rfl
                have e4 := cell_of_box bj 4 rfl
                have e5 := cell_of_box bj 5 rfl
                have e6 := cell_of_box bj 6 rfl
                have e7 := cell_of_box bj 7 rfl
                have e8 := cell_of_box bj 8 rfl
                have e9 := cell_of_box bj 9 rfl
                have e10 := cell_of_box bj 10 rfl
                clear bj
                go_wp2_with fail
                refine C.out.mono ?_
                rintro e w9 ⟨⟨m, rfl⟩, hb9⟩
                have HB9 := Lib.hid (below_then HB8.out hb9)
                have HS9 := Lib.hid (bx_later hb9 HS8.out)
                clear hb9 s0 s1 e0 e1 e2 e3 e4 e5 e6 e7 e8 e9 e10 C
                by_cases hm : m = 0
                case neg =>
                  have hm' : (m != 0) = true := by simp [hm]
                  go_wp2_with fail
                  go_ret
                  exact ⟨⟨_, rfl, fun h => absurd h hm⟩, HB9.out⟩
                subst hm
                go_wp2_with fail
                go_roundw
                case rel => exact ⟨j + 1, by omega, by go_num, HB9.out, HS9.out⟩
                case measure => simp [intOf]; omega
            · go_wp2_with fail
              go_loopw [113] (fun vi wr => ∃ j : Nat, j ≤ ne ∧ vi = .int .i64 j ∧ Hid (Below w.heap.size w wr) ∧ Hid (Bx wr w.heap.size #[.slice sa sn sc] 51)) (fun vi _ => ne - (intOf vi).toNat)
              case atStart => exact ⟨0, Nat.zero_le _, rfl, HB6.out, HS6.out⟩
              case round =>
                obtain ⟨j, hj, rfl, HB7, HS7⟩ := hrel
                rename World => w7
                by_cases hlt : j < ne
                case neg =>
                  have hjn : ¬ (j : Int) < (ne : Int) := by omega
                  clear hlt
                  go_wp2_with fail
                  go_roundw
                  case rel => exact ⟨.inr (.inr rfl), HB7.out, HS7.out⟩
                  case measure => simp [intOf]
                have hjl : j < els.length := by have := HNE.out; omega
                have hj2 : (j : Int) < (ne : Int) := by omega
                obtain ⟨x, hx⟩ : ∃ x, els[j] = x := ⟨_, rfl⟩
                have hxr : x.Reads w := HEE.out x (hx ▸ List.getElem_mem hjl)
                obtain ⟨b, oo, hi, c0, c1, c2, c3, c4, c5, c6, c7, c8, c9, c10, _⟩ := rd_op (HER.out.later HB7.out) HNE.out j hjl hx
                obtain ⟨⟨xk, xt, xy, xc, xr, ⟨vk, vn, vs⟩, ⟨xa, xb⟩, xi⟩, rv⟩ := x
                obtain ⟨rn, hrn⟩ : ∃ rn, rn = xr.length := ⟨_, rfl⟩
                have hxq : Rd w rv rn (rowCs xr) := by rw [hrn]; exact hxr
                clear hxr hx
                obtain ⟨ra, rc, hrv, -⟩ := id hxq
                subst hrv
                have hi' : ∀ W, (Instr.indexAt 24 (.slice ae ne ce) (.int .i64 (j : Int))).run Try.prog W = .ok (.pointer (some ⟨b, oo, none⟩)) W := hi
                clear hi
                have e0 : w7.cell? ⟨b, oo, none⟩ = some (.int .i64 xk) := c0
                have e1 : w7.cell? ⟨b, oo + 1, none⟩ = some (.int .i64 xt) := c1
                have e2 : w7.cell? ⟨b, oo + 2, none⟩ = some (.int .i64 xy) := c2
                have e3 : w7.cell? ⟨b, oo + 3, none⟩ = some (.int .i64 xc) := c3
                have e4 : w7.cell? ⟨b, oo + 4, none⟩ = some (.slice ra rn rc) := c4
                have e5 : w7.cell? ⟨b, oo + 5, none⟩ = some (.int .i64 vk) := c5
                have e6 : w7.cell? ⟨b, oo + 6, none⟩ = some (.int .i64 vn) := c6
                have e7 : w7.cell? ⟨b, oo + 7, none⟩ = some (.string vs) := c7
                have e8 : w7.cell? ⟨b, oo + 8, none⟩ = some (.int .i64 xa) := c8
                have e9 : w7.cell? ⟨b, oo + 9, none⟩ = some (.int .i64 xb) := c9
                have e10 : w7.cell? ⟨b, oo + 10, none⟩ = some (.int .i64 xi) := c10
                clear c0 c1 c2 c3 c4 c5 c6 c7 c8 c9 c10
                obtain ⟨w8, hw8⟩ : ∃ w8, w7.alloc (.cells #[.int .i64 xk, .int .i64 xt, .int .i64 xy, .int .i64 xc, .slice ra rn rc, .int .i64 vk, .int .i64 vn, .string vs, .int .i64 xa, .int .i64 xb, .int .i64 xi] 89) = w8 := ⟨_, rfl⟩
                have hb8 : Below w7.heap.size w7 w8 := by rw [← hw8]; exact below_alloc _ _
                have s0 := cell_of_box HS7.out 0 rfl
                have s1 := cell_of_box (bx_later hb8 HS7.out) 0 rfl
                have C := Lib.hid (opRight_any (w := w8) (k := xk) (t := xt) (y := xy) (c := xc) (vk := vk) (vn := vn) (vs := vs) (a := xa) (b := xb) (i := xi) HSN.out (HSR.out.later (below_then HB7.out hb8)) (fun t ht => (HST.out t ht).later (below_then HB7.out hb8)) hrn (hxq.later (below_then HB7.out hb8)))
                have HB8 := Lib.hid (below_then HB7.out hb8)
                have HS8 := Lib.hid (bx_later hb8 HS7.out)
                have bj : Bx w8 w7.heap.size #[.int .i64 xk, .int .i64 xt, .int .i64 xy, .int .i64 xc, .slice ra rn rc, .int .i64 vk, .int .i64 vn, .string vs, .int .i64 xa, .int .i64 xb, .int .i64 xi] 89 := by rw [← hw8]; exact bx_new rfl
                have HW8 := Lib.hid hw8
                clear hw8 hb8 hxq hrn
                go_upto_region 23 with fail
                rw [HW8.out]
                clear e0 e1 e2 e3 e4 e5 e6 e7 e8 e9 e10
                have e0 := cell_of_box bj 0 rfl
                have e1 := cell_of_box bj 1 rfl
                have e2 := cell_of_box bj 2 rfl
                have e3 := cell_of_box bj 3 rfl
                have e4 := cell_of_box bj 4 rfl
                have e5 := cell_of_box bj 5 rfl
                have e6 := cell_of_box bj 6 rfl
                have e7 := cell_of_box bj 7 rfl
                have e8 := cell_of_box bj 8 rfl
                have e9 := cell_of_box bj 9 rfl
                have e10 := cell_of_box bj 10 rfl
                clear bj
                go_wp2_with fail
                refine C.out.mono ?_
                rintro e w9 ⟨⟨m, rfl⟩, hb9⟩
                have HB9 := Lib.hid (below_then HB8.out hb9)
                have HS9 := Lib.hid (bx_later hb9 HS8.out)
                clear hb9 s0 s1 e0 e1 e2 e3 e4 e5 e6 e7 e8 e9 e10 C
                by_cases hm : m = 0
                case neg =>
                  have hm' : (m != 0) = true := by simp [hm]
                  go_wp2_with fail
                  go_ret
                  exact ⟨⟨_, rfl, fun h => absurd h hm⟩, HB9.out⟩
                subst hm
                go_wp2_with fail
                go_roundw
                case rel => exact ⟨j + 1, by omega, by go_num, HB9.out, HS9.out⟩
                case measure => simp [intOf]; omega
            · go_wp2_with fail
              go_ret
              exact ⟨⟨_, rfl, fun _ => F.out⟩, HB6.out⟩
        have := F.out.hands rfl
        omega
    · have hz0 : ¬ 0 < (ne : Int) := by have := G1.out rfl; omega
      go_wp2_with fail
      refine (note_any (ne := 0) h1 (by decide) h3 _).mono ?_
      rintro e w4 ⟨⟨r, rfl, hN0⟩, hb4⟩
      have hN : r = true → NoteF true no ne nh note := by rw [G1.out (by simp)]; exact hN0
      clear hN0 hz0
      rename (ne = 0) => hnn
      clear hnn
      have HB4 := Lib.hid (below_then HB3.out hb4)
      have HS4 := Lib.hid (bx_later hb4 HS3.out)
      have HX4 := Lib.hid (bx_later hb4 HX3.out)
      clear hb4 p0 p1 p2 p3 p4 p5 p6 p7 p8 p9 p10
      have p0 := cell_of_box HX4.out 0 rfl; have p1 := cell_of_box HX4.out 1 rfl; have p2 := cell_of_box HX4.out 2 rfl; have p3 := cell_of_box HX4.out 3 rfl; have p4 := cell_of_box HX4.out 4 rfl; have p5 := cell_of_box HX4.out 5 rfl; have p6 := cell_of_box HX4.out 6 rfl; have p7 := cell_of_box HX4.out 7 rfl; have p8 := cell_of_box HX4.out 8 rfl; have p9 := cell_of_box HX4.out 9 rfl; have p10 := cell_of_box HX4.out 10 rfl
      cases r
      · go_wp2_with fail
        go_ret
        exact ⟨⟨_, rfl, (fun h => absurd h (by decide))⟩, HB4.out⟩
      have F : Hid (TxF dev seq deps true no ne nh note) := Lib.hid ⟨F0.out.1, F0.out.2.1, F0.out.2.2.1, F0.out.2.2.2, HV.out, HO.out, (fun _ => G1.out (by simp)), (fun hh => nomatch hh), hN rfl⟩
      clear hN F0 G1 G2
      go_wp2_with fail
      go_loopw [87] (fun vi wr => ∃ k : Nat, k ≤ nh ∧ vi = .int .i64 k ∧ Hid (Below w.heap.size w wr) ∧ Hid (Bx wr w.heap.size #[.slice sa sn sc] 51) ∧ Hid (Bx wr (w.heap.size + 1) #[.int .i64 dev, .int .i64 seq, .int .i64 time, .slice ad nd cd, .slice ao no co, .slice ae ne ce, .bool true, .slice ah nh ch, .int .i64 note, .int .i64 whom, .int .i64 upto] 27)) (fun vi _ => nh - (intOf vi).toNat)
      case atStart => exact ⟨0, Nat.zero_le _, rfl, HB4.out, HS4.out, HX4.out⟩
      case round =>
        obtain ⟨k, hk, rfl, HB5, HS5, HX5⟩ := hrel
        rename World => w5
        clear p0 p1 p2 p3 p4 p5 p6 p7 p8 p9 p10
        have p0 := cell_of_box HX5.out 0 rfl; have p1 := cell_of_box HX5.out 1 rfl; have p2 := cell_of_box HX5.out 2 rfl; have p3 := cell_of_box HX5.out 3 rfl; have p4 := cell_of_box HX5.out 4 rfl; have p5 := cell_of_box HX5.out 5 rfl; have p6 := cell_of_box HX5.out 6 rfl; have p7 := cell_of_box HX5.out 7 rfl; have p8 := cell_of_box HX5.out 8 rfl; have p9 := cell_of_box HX5.out 9 rfl; have p10 := cell_of_box HX5.out 10 rfl
        by_cases hlt : k < nh
        case neg =>
          have hkn : k = nh := by omega
          have hkn' : ¬ (k : Int) < (nh : Int) := by omega
          go_wp2_with fail
          go_loopw [108] (fun vi wr => (vi = .int .i64 0 ∨ vi = .int .i64 1 ∨ vi = .int .i64 2) ∧ Hid (Below w.heap.size w wr) ∧ Hid (Bx wr w.heap.size #[.slice sa sn sc] 51)) (fun vi _ => 2 - (intOf vi).toNat)
          case atStart => exact ⟨.inl rfl, HB5.out, HS5.out⟩
          case round =>
            obtain ⟨hvi, HB6, HS6⟩ := hrel
            rename World => w6
            clear p0 p1 p2 p3 p4 p5 p6 p7 p8 p9 p10
            have x0 : ∀ W, (Instr.index 102 (.agg #[.slice ao no co, .slice ae ne ce]) (.int .i64 0)).run Try.prog W = .ok (.slice ao no co) W := fun _ => by kernel_rfl
            have x1 : ∀ W, (Instr.index 102 (.agg #[.slice ao no co, .slice ae ne ce]) (.int .i64 1)).run Try.prog W = .ok (.slice ae ne ce) W := fun _ => by kernel_rfl
            rcases hvi with rfl | rfl | rfl
            · go_wp2_with fail
              go_loopw [113] (fun vi wr => ∃ j : Nat, j ≤ no ∧ vi = .int .i64 j ∧ Hid (Below w.heap.size w wr) ∧ Hid (Bx wr w.heap.size #[.slice sa sn sc] 51)) (fun vi _ => no - (intOf vi).toNat)
              case atStart => exact ⟨0, Nat.zero_le _, rfl, HB6.out, HS6.out⟩
              case round =>
                obtain ⟨j, hj, rfl, HB7, HS7⟩ := hrel
                rename World => w7
                by_cases hlt : j < no
                case neg =>
                  have hjn : ¬ (j : Int) < (no : Int) := by omega
                  clear hlt
                  go_wp2_with fail
                  go_roundw
                  case rel => exact ⟨.inr (.inl rfl), HB7.out, HS7.out⟩
                  case measure => simp [intOf]
                have hjl : j < ops.length := by have := HNO.out; omega
                have hj2 : (j : Int) < (no : Int) := by omega
                obtain ⟨x, hx⟩ : ∃ x, ops[j] = x := ⟨_, rfl⟩
                have hxr : x.Reads w := HOE.out x (hx ▸ List.getElem_mem hjl)
                obtain ⟨b, oo, hi, c0, c1, c2, c3, c4, c5, c6, c7, c8, c9, c10, _⟩ := rd_op (HOR.out.later HB7.out) HNO.out j hjl hx
                obtain ⟨⟨xk, xt, xy, xc, xr, ⟨vk, vn, vs⟩, ⟨xa, xb⟩, xi⟩, rv⟩ := x
                obtain ⟨rn, hrn⟩ : ∃ rn, rn = xr.length := ⟨_, rfl⟩
                have hxq : Rd w rv rn (rowCs xr) := by rw [hrn]; exact hxr
                clear hxr hx
                obtain ⟨ra, rc, hrv, -⟩ := id hxq
                subst hrv
                have hi' : ∀ W, (Instr.indexAt 24 (.slice ao no co) (.int .i64 (j : Int))).run Try.prog W = .ok (.pointer (some ⟨b, oo, none⟩)) W := hi
                clear hi
                have e0 : w7.cell? ⟨b, oo, none⟩ = some (.int .i64 xk) := c0
                have e1 : w7.cell? ⟨b, oo + 1, none⟩ = some (.int .i64 xt) := c1
                have e2 : w7.cell? ⟨b, oo + 2, none⟩ = some (.int .i64 xy) := c2
                have e3 : w7.cell? ⟨b, oo + 3, none⟩ = some (.int .i64 xc) := c3
                have e4 : w7.cell? ⟨b, oo + 4, none⟩ = some (.slice ra rn rc) := c4
                have e5 : w7.cell? ⟨b, oo + 5, none⟩ = some (.int .i64 vk) := c5
                have e6 : w7.cell? ⟨b, oo + 6, none⟩ = some (.int .i64 vn) := c6
                have e7 : w7.cell? ⟨b, oo + 7, none⟩ = some (.string vs) := c7
                have e8 : w7.cell? ⟨b, oo + 8, none⟩ = some (.int .i64 xa) := c8
                have e9 : w7.cell? ⟨b, oo + 9, none⟩ = some (.int .i64 xb) := c9
                have e10 : w7.cell? ⟨b, oo + 10, none⟩ = some (.int .i64 xi) := c10
                clear c0 c1 c2 c3 c4 c5 c6 c7 c8 c9 c10
                obtain ⟨w8, hw8⟩ : ∃ w8, w7.alloc (.cells #[.int .i64 xk, .int .i64 xt, .int .i64 xy, .int .i64 xc, .slice ra rn rc, .int .i64 vk, .int .i64 vn, .string vs, .int .i64 xa, .int .i64 xb, .int .i64 xi] 89) = w8 := ⟨_, rfl⟩
                have hb8 : Below w7.heap.size w7 w8 := by rw [← hw8]; exact below_alloc _ _
                have s0 := cell_of_box HS7.out 0 rfl
                have s1 := cell_of_box (bx_later hb8 HS7.out) 0 rfl
                have C := Lib.hid (opRight_any (w := w8) (k := xk) (t := xt) (y := xy) (c := xc) (vk := vk) (vn := vn) (vs := vs) (a := xa) (b := xb) (i := xi) HSN.out (HSR.out.later (below_then HB7.out hb8)) (fun t ht => (HST.out t ht).later (below_then HB7.out hb8)) hrn (hxq.later (below_then HB7.out hb8)))
                have HB8 := Lib.hid (below_then HB7.out hb8)
                have HS8 := Lib.hid (bx_later hb8 HS7.out)
                have bj : Bx w8 w7.heap.size #[.int .i64 xk, .int .i64 xt, .int .i64 xy, .int .i64 xc, .slice ra rn rc, .int .i64 vk, .int .i64 vn, .string vs, .int .i64 xa, .int .i64 xb, .int .i64 xi] 89 := by rw [← hw8]; exact bx_new rfl
                have HW8 := Lib.hid hw8
                clear hw8 hb8 hxq hrn
                go_upto_region 23 with fail
                rw [HW8.out]
                clear e0 e1 e2 e3 e4 e5 e6 e7 e8 e9 e10
                have e0 := cell_of_box bj 0 rfl
                have e1 := cell_of_box bj 1 rfl
                have e2 := cell_of_box bj 2 rfl
                have e3 := cell_of_box bj 3 rfl
                have e4 := cell_of_box bj 4 rfl
                have e5 := cell_of_box bj 5 rfl
                have e6 := cell_of_box bj 6 rfl
                have e7 := cell_of_box bj 7 rfl
                have e8 := cell_of_box bj 8 rfl
                have e9 := cell_of_box bj 9 rfl
                have e10 := cell_of_box bj 10 rfl
                clear bj
                go_wp2_with fail
                refine C.out.mono ?_
                rintro e w9 ⟨⟨m, rfl⟩, hb9⟩
                have HB9 := Lib.hid (below_then HB8.out hb9)
                have HS9 := Lib.hid (bx_later hb9 HS8.out)
                clear hb9 s0 s1 e0 e1 e2 e3 e4 e5 e6 e7 e8 e9 e10 C
                by_cases hm : m = 0
                case neg =>
                  have hm' : (m != 0) = true := by simp [hm]
                  go_wp2_with fail
                  go_ret
                  exact ⟨⟨_, rfl, fun h => absurd h hm⟩, HB9.out⟩
                subst hm
                go_wp2_with fail
                go_roundw
                case rel => exact ⟨j + 1, by omega, by go_num, HB9.out, HS9.out⟩
                case measure => simp [intOf]; omega
            · go_wp2_with fail
              go_loopw [113] (fun vi wr => ∃ j : Nat, j ≤ ne ∧ vi = .int .i64 j ∧ Hid (Below w.heap.size w wr) ∧ Hid (Bx wr w.heap.size #[.slice sa sn sc] 51)) (fun vi _ => ne - (intOf vi).toNat)
              case atStart => exact ⟨0, Nat.zero_le _, rfl, HB6.out, HS6.out⟩
              case round =>
                obtain ⟨j, hj, rfl, HB7, HS7⟩ := hrel
                rename World => w7
                by_cases hlt : j < ne
                case neg =>
                  have hjn : ¬ (j : Int) < (ne : Int) := by omega
                  clear hlt
                  go_wp2_with fail
                  go_roundw
                  case rel => exact ⟨.inr (.inr rfl), HB7.out, HS7.out⟩
                  case measure => simp [intOf]
                have hjl : j < els.length := by have := HNE.out; omega
                have hj2 : (j : Int) < (ne : Int) := by omega
                obtain ⟨x, hx⟩ : ∃ x, els[j] = x := ⟨_, rfl⟩
                have hxr : x.Reads w := HEE.out x (hx ▸ List.getElem_mem hjl)
                obtain ⟨b, oo, hi, c0, c1, c2, c3, c4, c5, c6, c7, c8, c9, c10, _⟩ := rd_op (HER.out.later HB7.out) HNE.out j hjl hx
                obtain ⟨⟨xk, xt, xy, xc, xr, ⟨vk, vn, vs⟩, ⟨xa, xb⟩, xi⟩, rv⟩ := x
                obtain ⟨rn, hrn⟩ : ∃ rn, rn = xr.length := ⟨_, rfl⟩
                have hxq : Rd w rv rn (rowCs xr) := by rw [hrn]; exact hxr
                clear hxr hx
                obtain ⟨ra, rc, hrv, -⟩ := id hxq
                subst hrv
                have hi' : ∀ W, (Instr.indexAt 24 (.slice ae ne ce) (.int .i64 (j : Int))).run Try.prog W = .ok (.pointer (some ⟨b, oo, none⟩)) W := hi
                clear hi
                have e0 : w7.cell? ⟨b, oo, none⟩ = some (.int .i64 xk) := c0
                have e1 : w7.cell? ⟨b, oo + 1, none⟩ = some (.int .i64 xt) := c1
                have e2 : w7.cell? ⟨b, oo + 2, none⟩ = some (.int .i64 xy) := c2
                have e3 : w7.cell? ⟨b, oo + 3, none⟩ = some (.int .i64 xc) := c3
                have e4 : w7.cell? ⟨b, oo + 4, none⟩ = some (.slice ra rn rc) := c4
                have e5 : w7.cell? ⟨b, oo + 5, none⟩ = some (.int .i64 vk) := c5
                have e6 : w7.cell? ⟨b, oo + 6, none⟩ = some (.int .i64 vn) := c6
                have e7 : w7.cell? ⟨b, oo + 7, none⟩ = some (.string vs) := c7
                have e8 : w7.cell? ⟨b, oo + 8, none⟩ = some (.int .i64 xa) := c8
                have e9 : w7.cell? ⟨b, oo + 9, none⟩ = some (.int .i64 xb) := c9
                have e10 : w7.cell? ⟨b, oo + 10, none⟩ = some (.int .i64 xi) := c10
                clear c0 c1 c2 c3 c4 c5 c6 c7 c8 c9 c10
                obtain ⟨w8, hw8⟩ : ∃ w8, w7.alloc (.cells #[.int .i64 xk, .int .i64 xt, .int .i64 xy, .int .i64 xc, .slice ra rn rc, .int .i64 vk, .int .i64 vn, .string vs, .int .i64 xa, .int .i64 xb, .int .i64 xi] 89) = w8 := ⟨_, rfl⟩
                have hb8 : Below w7.heap.size w7 w8 := by rw [← hw8]; exact below_alloc _ _
                have s0 := cell_of_box HS7.out 0 rfl
                have s1 := cell_of_box (bx_later hb8 HS7.out) 0 rfl
                have C := Lib.hid (opRight_any (w := w8) (k := xk) (t := xt) (y := xy) (c := xc) (vk := vk) (vn := vn) (vs := vs) (a := xa) (b := xb) (i := xi) HSN.out (HSR.out.later (below_then HB7.out hb8)) (fun t ht => (HST.out t ht).later (below_then HB7.out hb8)) hrn (hxq.later (below_then HB7.out hb8)))
                have HB8 := Lib.hid (below_then HB7.out hb8)
                have HS8 := Lib.hid (bx_later hb8 HS7.out)
                have bj : Bx w8 w7.heap.size #[.int .i64 xk, .int .i64 xt, .int .i64 xy, .int .i64 xc, .slice ra rn rc, .int .i64 vk, .int .i64 vn, .string vs, .int .i64 xa, .int .i64 xb, .int .i64 xi] 89 := by rw [← hw8]; exact bx_new rfl
                have HW8 := Lib.hid hw8
                clear hw8 hb8 hxq hrn
                go_upto_region 23 with fail
                rw [HW8.out]
                clear e0 e1 e2 e3 e4 e5 e6 e7 e8 e9 e10
                have e0 := cell_of_box bj 0 rfl
                have e1 := cell_of_box bj 1 rfl
                have e2 := cell_of_box bj 2 rfl
                have e3 := cell_of_box bj 3 rfl
                have e4 := cell_of_box bj 4 rfl
                have e5 := cell_of_box bj 5 rfl
                have e6 := cell_of_box bj 6 rfl
                have e7 := cell_of_box bj 7 rfl
                have e8 := cell_of_box bj 8 rfl
                have e9 := cell_of_box bj 9 rfl
                have e10 := cell_of_box bj 10 rfl
                clear bj
                go_wp2_with fail
                refine C.out.mono ?_
                rintro e w9 ⟨⟨m, rfl⟩, hb9⟩
                have HB9 := Lib.hid (below_then HB8.out hb9)
                have HS9 := Lib.hid (bx_later hb9 HS8.out)
                clear hb9 s0 s1 e0 e1 e2 e3 e4 e5 e6 e7 e8 e9 e10 C
                by_cases hm : m = 0
                case neg =>
                  have hm' : (m != 0) = true := by simp [hm]
                  go_wp2_with fail
                  go_ret
                  exact ⟨⟨_, rfl, fun h => absurd h hm⟩, HB9.out⟩
                subst hm
                go_wp2_with fail
                go_roundw
                case rel => exact ⟨j + 1, by omega, by go_num, HB9.out, HS9.out⟩
                case measure => simp [intOf]; omega
            · go_wp2_with fail
              go_ret
              exact ⟨⟨_, rfl, fun _ => F.out⟩, HB6.out⟩
        have hkl : k < hands.length := by have := HNH.out; omega
        have hk2 : (k : Int) < (nh : Int) := by omega
        obtain ⟨x, hx⟩ : ∃ x, hands[k] = x := ⟨_, rfl⟩
        obtain ⟨b, oo, hi, c0, c1, c2, c3, c4, c5, c6, _⟩ := rd_hand (HHR.out.later HB5.out) HNH.out k hkl hx
        obtain ⟨tto, hkd, htb, hcl, hlo, hhi, ham⟩ := x
        simp only [] at c0 c1 c2 c3 c4 c5 c6
        obtain ⟨w6, hw6⟩ : ∃ w6, w5.alloc (.cells #[.int .i64 tto, .int .i64 hkd, .int .i64 htb, .int .i64 hcl, .int .i64 hlo, .int .i64 hhi, .int .i64 ham] 67) = w6 := ⟨_, rfl⟩
        have hb6 : Below w5.heap.size w5 w6 := by rw [← hw6]; exact below_alloc _ _
        have bj : Bx w6 w5.heap.size #[.int .i64 tto, .int .i64 hkd, .int .i64 htb, .int .i64 hcl, .int .i64 hlo, .int .i64 hhi, .int .i64 ham] 67 := by rw [← hw6]; exact bx_new rfl
        have HW6 := Lib.hid hw6
        have HB6 := Lib.hid (below_then HB5.out hb6)
        have HS6 := Lib.hid (bx_later hb6 HS5.out)
        have HX6 := Lib.hid (bx_later hb6 HX5.out)
        clear hw6 hb6 hx
        go_upto_region 14 with fail
        rw [HW6.out]
        have q0 := cell_of_box bj 0 rfl
        clear p0 p1 p2 p3 p4 p5 p6 p7 p8 p9 p10
        have p0 := cell_of_box HX6.out 0 rfl
        clear bj c0 c1 c2 c3 c4 c5 c6
        go_wp2_with fail
        cases hq : inQ3 tto 1 64
        · have HQ := Lib.hid hq
          clear hq
          refine (txIn_b _ HQ.out).mono ?_
          rintro e w3 ⟨rfl, rfl⟩
          go_wp2_with fail
          go_ret
          exact ⟨⟨_, rfl, (fun h => absurd h (by decide))⟩, HB6.out⟩
        have HQ := Lib.hid hq
        clear hq
        refine (txIn_b _ HQ.out).mono ?_
        rintro e w3 ⟨rfl, rfl⟩
        by_cases htd : tto = dev
        · subst htd
          go_wp2_with fail
          go_ret
          exact ⟨⟨_, rfl, (fun h => absurd h (by decide))⟩, HB6.out⟩
        have htd' : (tto == dev) = false := by simp [htd]
        clear htd
        go_wp2_with fail
        go_roundw
        case rel => exact ⟨k + 1, by omega, by go_num, HB6.out, HS6.out, HX6.out⟩
        case measure => simp [intOf]; omega
end
end Go.Proofs.Ytliokkoalkhpaaa
