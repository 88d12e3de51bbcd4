/-
  Layer 7 (multi): Write. (printed by tools/gen_mx.py)
-/
import Derived.Test.YtagbaejgjhmokaaMW
namespace Go.Proofs.Ytagbaejgjhmokaa
open Go.RowKit Go.Sort Go.BigFrame

/-- A box of a struct: a block known whole. -/
abbrev Bx (w : World) (q : Nat) (cs : Array Value) (T : TypeId) : Prop := w.heap[q]? = some (.cells cs T (0, 0))
theorem bx_later {w w' : World} {q : Nat} {cs : Array Value} {T : TypeId} (hb : Below w.heap.size w w') (h : Bx w q cs T) : Bx w' q cs T := by
  unfold Bx at *; rw [hb.block q (Array.getElem?_eq_some_iff.1 h).1]; exact h
theorem bx_grown {w w' : World} {r : Option Nat} {q : Nat} {cs : Array Value} {T : TypeId} (hg : w.grownBy w' r) (h : Bx w q cs T) (hr : r ≠ some q) : Bx w' q cs T := by
  unfold Bx at *; rw [hg.block q (Array.getElem?_eq_some_iff.1 h).1 (fun e => hr e.symm)]; exact h
theorem bx_new {w : World} {q : Nat} {cs : Array Value} {T : TypeId} (hq : q = w.heap.size) : Bx (w.alloc (.cells cs T)) q cs T := by subst hq; exact heap_alloc_new w _
theorem cell_of_box {w : World} {q : Nat} {cs : Array Value} {T : TypeId} (h : Bx w q cs T) (j : Nat) {v : Value} (hj : cs[j]? = some v) : w.cell? ⟨q, j, none⟩ = some v := by simp [World.cell?, h, hj]
theorem frozen_of_box {w : World} {q : Nat} {cs : Array Value} {T : TypeId} (h : Bx w q cs T) (j : Nat) : w.frozen? ⟨q, j, none⟩ = false := by simp [World.frozen?, h]

theorem put_at {v : Val} {d : Dt} : ∀ {K : List Prt} {i : Nat}, (∀ p ∈ K.take i, ltD d p.d = false) → (K.length ≤ i ∨ ∃ x, K[i]? = some x ∧ ltD d x.d = true) → K.take i ++ bareP v d :: K.drop i = putD (bareP v d) K
  | [], i, _, _ => by simp [putD]
  | y :: K, 0, _, h => by
    rcases h with h | ⟨x, hx, h⟩
    · simp at h
    · cases hx
      unfold putD
      rw [List.takeWhile_cons_of_neg (by simpa [ltP, bareP] using h), List.dropWhile_cons_of_neg (by simpa [ltP, bareP] using h)]; rfl
  | y :: K, i + 1, h0, h => by
    have hy : ltD d y.d = false := h0 y (by simp)
    have ih := put_at (v := v) (d := d) (K := K) (i := i) (fun p hp => h0 p (by simp [hp])) (by simpa using h)
    unfold putD at ih ⊢
    rw [List.takeWhile_cons_of_pos (by simpa [ltP, bareP] using hy), List.dropWhile_cons_of_pos (by simpa [ltP, bareP] using hy)]
    simp only [List.take_succ_cons, List.drop_succ_cons, List.cons_append, ih]

def CellPost (kd : Int) (cv : Val) (w : World) (l : List Prt) (e : Ending) (w' : World) : Prop :=
  ∃ v', e = .returned (.agg #[.int .i64 kd, .int .i64 cv.k, .int .i64 cv.n, .string cv.s, v']) ∧ OwnP w' w.heap.size v' l ∧ Below w.heap.size w w'

set_option maxRecDepth 100000 in
set_option maxHeartbeats 4000000 in
theorem write_any (kd : Int) (cv v : Val) (va vk : Value) (l : List Prt) (d : Dt) (knew : List Int) (w : World) (ha : PRd w va l) (hk : Rd w vk knew.length (knew.map ic)) (hn : l.length ≤ 1000) :
    Calls Try.prog 15 #[.agg #[.int .i64 kd, .int .i64 cv.k, .int .i64 cv.n, .string cv.s, va], v.agg, d.agg, vk] w (CellPost kd cv w (writeL l v d knew)) := by
  obtain ⟨ao, cc, rfl, _⟩ := id ha
  obtain ⟨ko, kc, rfl, _⟩ := id hk
  obtain ⟨w1, hw1⟩ : ∃ w1, ((((w.alloc (.cells #[.int .i64 kd, .int .i64 cv.k, .int .i64 cv.n, .string cv.s, .slice ao l.length cc] 26)).alloc (.cells #[.int .i64 v.k, .int .i64 v.n, .string v.s] 23)).alloc (.cells #[.int .i64 d.dev, .int .i64 d.seq] 30)).alloc (.cells #[.slice ko knew.length kc] 34)).alloc (.cells #[.int .i64 0, .int .i64 0, .int .i64 0, .string ⟨#[]⟩, .slice none 0 0] 26) = w1 := ⟨_, rfl⟩
  have hb1 : Below w.heap.size w w1 := by rw [← hw1]; exact below_alloc_then (below_alloc_then (below_alloc_then (below_alloc_then (below_alloc _ _))))
  have hsz : w1.heap.size = w.heap.size + 5 := by rw [← hw1]; simp
  have b0 : Bx w1 w.heap.size #[.int .i64 kd, .int .i64 cv.k, .int .i64 cv.n, .string cv.s, .slice ao l.length cc] 26 := by rw [← hw1]; exact bx_later (below_alloc_then (below_alloc_then (below_alloc_then (below_alloc _ _)))) (bx_new (by simp))
  have b1 : Bx w1 (w.heap.size + 1) #[.int .i64 v.k, .int .i64 v.n, .string v.s] 23 := by rw [← hw1]; exact bx_later (below_alloc_then (below_alloc_then (below_alloc _ _))) (bx_new (by simp))
  have b2 : Bx w1 (w.heap.size + 2) #[.int .i64 d.dev, .int .i64 d.seq] 30 := by rw [← hw1]; exact bx_later (below_alloc_then (below_alloc _ _)) (bx_new (by simp))
  have b3 : Bx w1 (w.heap.size + 3) #[.slice ko knew.length kc] 34 := by rw [← hw1]; exact bx_later (below_alloc _ _) (bx_new (by simp))
  have b4 : Bx w1 (w.heap.size + 4) #[.int .i64 0, .int .i64 0, .int .i64 0, .string ⟨#[]⟩, .slice none 0 0] 26 := by rw [← hw1]; exact bx_new (by simp)
  have hdt : DotAt w1 (w.heap.size + 2) d := ⟨cell_of_box b2 0 rfl, cell_of_box b2 1 rfl⟩
  have hvt : VecAt w1 (w.heap.size + 3) knew := ⟨_, _, _, cell_of_box b3 0 rfl, hk.later hb1⟩
  have hkept := kept_any (.slice ao l.length cc) l w1 (write_test w1 d knew _ _ hdt hvt) (ha.later hb1) (by omega)
  have HKE := Lib.hid hkept
  have HW := Lib.hid hw1
  have HBW1 := Lib.hid hb1
  have HSZ := Lib.hid hsz
  have B0 := Lib.hid b0
  have B1 := Lib.hid b1
  have B2 := Lib.hid b2
  have B4 := Lib.hid b4
  have x4 := cell_of_box b0 4 rfl
  clear hw1 hb1 hsz b0 b1 b2 b3 b4 hdt hvt hkept ha hk
  go_enter Try.func15, Try.ntmps15
  go_wp2_with fail
  rw [HW.out]
  refine HKE.out.mono ?_
  rintro e w2 ⟨v1, rfl, hown2, hb2⟩
  obtain ⟨K, hK⟩ : ∃ K, l.filter (keepW d knew) = K := ⟨_, rfl⟩
  rw [hK] at hown2
  obtain ⟨a1, c1, rfl, hnc, hcm, _, _⟩ := Rd.of_own hown2
  obtain ⟨n, hKn⟩ : ∃ n, K.length = n := ⟨_, rfl⟩
  have hn1 : n ≤ 1000 := by rw [← hKn, ← hK]; exact Nat.le_trans (List.length_filter_le _ _) hn
  have HKW : Hid (keptW l d knew = K) := hK
  have HO2 := Lib.hid hown2
  have HO2B := Lib.hid hb2.size
  have HBW2 := Lib.hid (below_then HBW1.out hb2)
  have B0 := Lib.hid (bx_later hb2 B0.out)
  have B1 := Lib.hid (bx_later hb2 B1.out)
  have B2 := Lib.hid (bx_later hb2 B2.out)
  have B4 := Lib.hid (bx_later hb2 B4.out)
  have HK := Lib.hid hKn
  rw [hKn] at hnc ⊢
  unfold OwnP at HO2
  unfold maxLen at hcm
  clear hown2 hb2 HKE hK hKn x4
  go_wp2_with fail
  go_loopw [10, 21] (fun vat vi wr => ∃ k : Nat, k ≤ n ∧ vi = .int .i64 k ∧ vat = .int .i64 n ∧ Hid (∀ p ∈ K.take k, ltD d p.d = false) ∧ Hid (Below w2.heap.size w2 wr)) (fun _ vi _ => n - (intOf vi).toNat)
  case atStart => exact ⟨0, Nat.zero_le _, rfl, rfl, (fun p hp => by simp at hp), Below.refl _ _⟩
  case round =>
    obtain ⟨k, hk, rfl, rfl, hno, hbw⟩ := hrel
    rename World => wr
    by_cases hlt : k < n
    · have hkl : k < K.length := by have := HK.out; omega
      obtain ⟨x, hx⟩ : ∃ x, K[k] = x := ⟨_, rfl⟩
      have hgx : K[k]? = some x := by rw [List.getElem?_eq_getElem hkl, hx]
      obtain ⟨q1, o1, x1, c0, c1x, c2, c3, c4, c5, c6, c7, c8, c9, c10, _⟩ := rd_prt ((Rd.of_own HO2.out).later hbw.out) rfl k hkl hx
      rw [HK.out] at x1
      have b2' := bx_later hbw.out B2.out
      have d0 := cell_of_box b2' 0 rfl
      have d1 := cell_of_box b2' 1 rfl
      have hbx := below_alloc wr (.cells #[.int .i64 x.v.k, .int .i64 x.v.n, .string x.v.s, .int .i64 x.d.dev, .int .i64 x.d.seq, .int .i64 x.at_, .int .i64 x.tm, .int .i64 x.aft.dev, .int .i64 x.aft.seq, .int .i64 x.aat, .bool x.gone] 32)
      have g0 := cell_later hbx d0
      have g1 := cell_later hbx d1
      have HBX := Lib.hid hbx
      have hpos := cmpD_pos x.d d
      have hby := byDots_any x.d d
      obtain ⟨cr, hcr⟩ : ∃ cr, cmpD x.d d = cr := ⟨_, rfl⟩
      rw [hcr] at hpos hby
      have HBY := Lib.hid hby
      have HGX := Lib.hid hgx
      have HX := Lib.hid hx
      clear hcr hby hgx hx hbx b2'
      cases hl : ltD d x.d
      all_goals
        rw [hl] at hpos
        have HL := Lib.hid hl
        clear hl
      · have hcp : cr ≤ 0 := by simpa using hpos
        clear hpos
        go_wp2_with fail
        refine (HBY.out _).mono ?_
        rintro e w3 ⟨rfl, hb3⟩
        have HB3 := Lib.hid (below_then hbw.out (below_then HBX.out hb3))
        clear hb3
        go_wp2_with fail
        go_roundw
        case rel =>
          refine ⟨k + 1, by omega, by go_num, rfl, ?_, HB3.out⟩
          intro p hp
          rw [List.take_succ_eq_append_getElem hkl] at hp
          rcases List.mem_append.1 hp with hp | hp
          · exact hno.out p hp
          · rw [List.mem_singleton.1 hp, HX.out]; exact HL.out
        case measure => simp [intOf]; omega
      · have hcp : 0 < cr := by simpa using hpos
        clear hpos
        go_wp2_with fail
        refine (HBY.out _).mono ?_
        rintro e w3 ⟨rfl, hb3⟩
        have HBR := Lib.hid (below_then hbw.out (below_then HBX.out hb3))
        clear hb3 d0 d1 g0 g1 c0 c2 c3 c4 c5 c6 c7 c8 c9 c10
        have hown9 := own_later HO2.out HBR.out
        have hbl := below_alloc w3 (.cells (enP (bareP v d)).toArray 32)
        have hins := insertP_any w1.heap.size (.slice a1 n c1) n k (prtCs K) (enP (bareP v d)) (w3.alloc (.cells (enP (bareP v d)).toArray 32)) w3.heap.size (by have := own_later hown9 hbl; rw [HK.out] at this; exact this) (heap_alloc_new _ _) (fun e => by have := (hown9.lt _ (by rw [HK.out]; exact e)).2; omega) rfl
          (by intro u hu; simp only [enP, List.mem_cons, List.not_mem_nil, or_false] at hu; rcases hu with rfl | rfl | rfl | rfl | rfl | rfl | rfl | rfl | rfl | rfl | rfl <;> rfl) (oneP K) (by omega) (by omega) (Nat.le_trans HO2B.out (Nat.le_trans HBR.out.size hbl.size))
        have HINS := Lib.hid hins
        have HBL := Lib.hid hbl
        have b1' := bx_later HBR.out B1.out
        have v0' := cell_of_box b1' 0 rfl
        have v1' := cell_of_box b1' 1 rfl
        have v2' := cell_of_box b1' 2 rfl
        have b2' := bx_later HBR.out B2.out
        have d0' := cell_of_box b2' 0 rfl
        have d1' := cell_of_box b2' 1 rfl
        clear hown9 hins hbl b1' b2'
        go_wp2_with fail
        refine HINS.out.mono ?_
        rintro e w4 ⟨v3, rfl, hown4, hgrow4⟩
        obtain ⟨a3, c3, rfl, _⟩ := Rd.of_own hown4
        have hne4 : ∀ kk, kk < w1.heap.size → Value.ownBlock (.slice a1 n c1) ≠ some kk := fun kk hk e => by have := (HO2.out.lt kk (by rw [HK.out]; exact e)).1; omega
        have hb0 := bx_grown hgrow4 (bx_later HBL.out (bx_later HBR.out B0.out)) (hne4 _ (by have := HSZ.out; omega))
        have hb4 := bx_grown hgrow4 (bx_later HBL.out (bx_later HBR.out B4.out)) (hne4 _ (by have := HSZ.out; omega))
        have hput : prtCs (putD (bareP v d) K) = (prtCs K).take (k * 11) ++ enP (bareP v d) ++ (prtCs K).drop (k * 11) := by
          rw [prtCs_take, prtCs_drop, ← put_at (i := k) (v := v) (d := d) (K := K) (hno.out) (.inr ⟨x, HGX.out, HL.out⟩)]
          simp [prtCs]
        have hown5 : w4.ownsRow w.heap.size 32 11 (.slice a3 (n + 1) c3) (n + 1) (prtCs (putD (bareP v d) K)) := by
          rw [hput]; exact own_monoP hown4 HBW1.out.size
        have hfar : ∀ kk, Value.ownBlock (.slice a3 (n + 1) c3) = some kk → w1.heap.size ≤ kk := fun kk hk => (hown4.lt kk hk).1
        have hbel : Below w.heap.size w w4 := (below_then HBW2.out (below_then HBR.out HBL.out)).grown hgrow4 (below_then HBW2.out (below_then HBR.out HBL.out)).size (fun kk hk => by have := (HO2.out.lt kk (by rw [HK.out]; exact hk)).1; have := HBW1.out.size; omega)
        have e0 := cell_of_box hb0 0 rfl
        have z0 := cell_of_box hb4 0 rfl
        have fe0 := frozen_of_box hb0 0
        have fz0 := frozen_of_box hb4 0
        have e1 := cell_of_box hb0 1 rfl
        have z1 := cell_of_box hb4 1 rfl
        have fe1 := frozen_of_box hb0 1
        have fz1 := frozen_of_box hb4 1
        have e2 := cell_of_box hb0 2 rfl
        have z2 := cell_of_box hb4 2 rfl
        have fe2 := frozen_of_box hb0 2
        have fz2 := frozen_of_box hb4 2
        have e3 := cell_of_box hb0 3 rfl
        have z3 := cell_of_box hb4 3 rfl
        have fe3 := frozen_of_box hb0 3
        have fz3 := frozen_of_box hb4 3
        have e4 := cell_of_box hb0 4 rfl
        have z4 := cell_of_box hb4 4 rfl
        have fe4 := frozen_of_box hb0 4
        have fz4 := frozen_of_box hb4 4
        have HO5 := Lib.hid hown5
        have HFAR := Lib.hid hfar
        have HBEL := Lib.hid hbel
        clear hown4 hgrow4 hne4 hb0 hb4 hput hown5 hfar hbel HINS
        go_wp2_with fail
        refine bodyPost_ret (v := .agg #[.int .i64 kd, .int .i64 cv.k, .int .i64 cv.n, .string cv.s, .slice a3 (n + 1) c3]) (by simp [results, Try.results15, go_sem, z0, z1, z2, z3, z4]) rfl ⟨.slice a3 (n + 1) c3, rfl, ?_, ?_⟩
        · unfold OwnP writeL
          rw [putD_length, HKW.out, HK.out]
          refine own_but (S := fun kk => kk = w.heap.size ∨ kk = w.heap.size + 4) HO5.out ?_ fun kk hk hs => by have := HFAR.out kk hk; have := HSZ.out; rcases hs with rfl | rfl <;> omega
          exact ((((((But.refl _ w4).set (.inl rfl) _).set (.inr rfl) _).set (.inr rfl) _).set (.inr rfl) _).set (.inr rfl) _).set (.inr rfl) _
        · repeat' (first | with_reducible apply Below.setCell | exact HBEL.out)
          all_goals (simp <;> omega)
    · have hkn : k = n := by omega
      subst hkn
      have HBR := Lib.hid hbw.out
      have hown9 := own_later HO2.out HBR.out
      have hbl := below_alloc wr (.cells (enP (bareP v d)).toArray 32)
      have hins := insertP_any w1.heap.size (.slice a1 k c1) k k (prtCs K) (enP (bareP v d)) (wr.alloc (.cells (enP (bareP v d)).toArray 32)) wr.heap.size (by have := own_later hown9 hbl; rw [HK.out] at this; exact this) (heap_alloc_new _ _) (fun e => by have := (hown9.lt _ (by rw [HK.out]; exact e)).2; omega) rfl
        (by intro u hu; simp only [enP, List.mem_cons, List.not_mem_nil, or_false] at hu; rcases hu with rfl | rfl | rfl | rfl | rfl | rfl | rfl | rfl | rfl | rfl | rfl <;> rfl) (oneP K) (by omega) (by omega) (Nat.le_trans HO2B.out (Nat.le_trans HBR.out.size hbl.size))
      have HINS := Lib.hid hins
      have HBL := Lib.hid hbl
      have b1' := bx_later HBR.out B1.out
      have v0' := cell_of_box b1' 0 rfl
      have v1' := cell_of_box b1' 1 rfl
      have v2' := cell_of_box b1' 2 rfl
      have b2' := bx_later HBR.out B2.out
      have d0' := cell_of_box b2' 0 rfl
      have d1' := cell_of_box b2' 1 rfl
      clear hown9 hins hbl b1' b2'
      go_wp2_with fail
      refine HINS.out.mono ?_
      rintro e w4 ⟨v3, rfl, hown4, hgrow4⟩
      obtain ⟨a3, c3, rfl, _⟩ := Rd.of_own hown4
      have hne4 : ∀ kk, kk < w1.heap.size → Value.ownBlock (.slice a1 k c1) ≠ some kk := fun kk hk e => by have := (HO2.out.lt kk (by rw [HK.out]; exact e)).1; omega
      have hb0 := bx_grown hgrow4 (bx_later HBL.out (bx_later HBR.out B0.out)) (hne4 _ (by have := HSZ.out; omega))
      have hb4 := bx_grown hgrow4 (bx_later HBL.out (bx_later HBR.out B4.out)) (hne4 _ (by have := HSZ.out; omega))
      have hput : prtCs (putD (bareP v d) K) = (prtCs K).take (k * 11) ++ enP (bareP v d) ++ (prtCs K).drop (k * 11) := by
        rw [prtCs_take, prtCs_drop, ← put_at (i := k) (v := v) (d := d) (K := K) (hno.out) (.inl (by have := HK.out; omega))]
        simp [prtCs]
      have hown5 : w4.ownsRow w.heap.size 32 11 (.slice a3 (k + 1) c3) (k + 1) (prtCs (putD (bareP v d) K)) := by
        rw [hput]; exact own_monoP hown4 HBW1.out.size
      have hfar : ∀ kk, Value.ownBlock (.slice a3 (k + 1) c3) = some kk → w1.heap.size ≤ kk := fun kk hk => (hown4.lt kk hk).1
      have hbel : Below w.heap.size w w4 := (below_then HBW2.out (below_then HBR.out HBL.out)).grown hgrow4 (below_then HBW2.out (below_then HBR.out HBL.out)).size (fun kk hk => by have := (HO2.out.lt kk (by rw [HK.out]; exact hk)).1; have := HBW1.out.size; omega)
      have e0 := cell_of_box hb0 0 rfl
      have z0 := cell_of_box hb4 0 rfl
      have fe0 := frozen_of_box hb0 0
      have fz0 := frozen_of_box hb4 0
      have e1 := cell_of_box hb0 1 rfl
      have z1 := cell_of_box hb4 1 rfl
      have fe1 := frozen_of_box hb0 1
      have fz1 := frozen_of_box hb4 1
      have e2 := cell_of_box hb0 2 rfl
      have z2 := cell_of_box hb4 2 rfl
      have fe2 := frozen_of_box hb0 2
      have fz2 := frozen_of_box hb4 2
      have e3 := cell_of_box hb0 3 rfl
      have z3 := cell_of_box hb4 3 rfl
      have fe3 := frozen_of_box hb0 3
      have fz3 := frozen_of_box hb4 3
      have e4 := cell_of_box hb0 4 rfl
      have z4 := cell_of_box hb4 4 rfl
      have fe4 := frozen_of_box hb0 4
      have fz4 := frozen_of_box hb4 4
      have HO5 := Lib.hid hown5
      have HFAR := Lib.hid hfar
      have HBEL := Lib.hid hbel
      clear hown4 hgrow4 hne4 hb0 hb4 hput hown5 hfar hbel HINS
      go_wp2_with fail
      refine bodyPost_ret (v := .agg #[.int .i64 kd, .int .i64 cv.k, .int .i64 cv.n, .string cv.s, .slice a3 (k + 1) c3]) (by simp [results, Try.results15, go_sem, z0, z1, z2, z3, z4]) rfl ⟨.slice a3 (k + 1) c3, rfl, ?_, ?_⟩
      · unfold OwnP writeL
        rw [putD_length, HKW.out, HK.out]
        refine own_but (S := fun kk => kk = w.heap.size ∨ kk = w.heap.size + 4) HO5.out ?_ fun kk hk hs => by have := HFAR.out kk hk; have := HSZ.out; rcases hs with rfl | rfl <;> omega
        exact ((((((But.refl _ w4).set (.inl rfl) _).set (.inr rfl) _).set (.inr rfl) _).set (.inr rfl) _).set (.inr rfl) _).set (.inr rfl) _
      · repeat' (first | with_reducible apply Below.setCell | exact HBEL.out)
        all_goals (simp <;> omega)

end Go.Proofs.Ytagbaejgjhmokaa
