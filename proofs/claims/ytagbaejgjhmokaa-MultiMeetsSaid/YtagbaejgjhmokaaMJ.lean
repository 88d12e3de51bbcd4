/-
  Layer 7 (multi): Join. (printed by tools/gen_ms.py)
-/
import Derived.Test.YtagbaejgjhmokaaMS
namespace Go.Proofs.Ytagbaejgjhmokaa
open Go.RowKit Go.Sort Go.BigFrame

theorem own_far {w : World} {B n c m : Nat} {e : TypeId} {size : Nat} {ao : Option Addr} {xs : List Value} (h : w.ownsRow B e size (.slice ao n c) m xs) : ∀ a, ao = some a → B ≤ a.block ∧ a.block < w.heap.size := by
  intro a ha
  subst ha
  rcases h.2 with ⟨h', _⟩ | ⟨g, cap, cur, h', hb, hg, _⟩
  · cases h'
  · cases h'; exact ⟨hb, (Array.getElem?_eq_some_iff.1 hg).1⟩
/-- A cell's box: its parts. -/
def PartsAt (w : World) (q : Nat) (l : List Prt) : Prop := ∃ ao c, w.cell? ⟨q, 4, none⟩ = some (.slice ao l.length c) ∧ PRd w (.slice ao l.length c) l
theorem PartsAt.later {w w' : World} {q : Nat} {l : List Prt} (h : PartsAt w q l) (hb : Below w.heap.size w w') : PartsAt w' q l := by
  obtain ⟨ao, c, h1, h2⟩ := h
  exact ⟨ao, c, cell_later hb h1, h2.later hb⟩

def keepJ (bl : List Prt) (kb : List Int) (p : Prt) : Bool := hasP bl p.d || !hasV kb p.d

set_option maxRecDepth 100000 in
set_option maxHeartbeats 1000000 in
theorem join1_any (x : Prt) (bl : List Prt) (kb : List Int) (q r : Nat) (w : World) (h : PartsAt w q bl) (hv : VecAt w r kb) (hn : bl.length ≤ 1000000) :
    Calls Try.prog 39 #[x.agg, .pointer (some ⟨q, 0, none⟩), .pointer (some ⟨r, 0, none⟩)] w fun e w' => e = .returned (.bool (keepJ bl kb x)) ∧ Below w.heap.size w w' := by
  obtain ⟨bo, bc', h0, h1⟩ := h
  obtain ⟨ao, n, c, h2, h3⟩ := hv
  have hb := below_alloc w (.cells #[.int .i64 x.v.k, .int .i64 x.v.n, .string x.v.s, .int .i64 x.d.dev, .int .i64 x.d.seq, .int .i64 x.at_, .int .i64 x.tm, .int .i64 x.aft.dev, .int .i64 x.aft.seq, .int .i64 x.aat, .bool x.gone] 32)
  have g0 := cell_later hb h0
  have g2 := cell_later hb h2
  have d0 : (w.alloc (.cells #[.int .i64 x.v.k, .int .i64 x.v.n, .string x.v.s, .int .i64 x.d.dev, .int .i64 x.d.seq, .int .i64 x.at_, .int .i64 x.tm, .int .i64 x.aft.dev, .int .i64 x.aft.seq, .int .i64 x.aat, .bool x.gone] 32)).cell? ⟨w.heap.size, 3, none⟩ = some (.int .i64 x.d.dev) := by simp [go_sem]
  have d1 : (w.alloc (.cells #[.int .i64 x.v.k, .int .i64 x.v.n, .string x.v.s, .int .i64 x.d.dev, .int .i64 x.d.seq, .int .i64 x.at_, .int .i64 x.tm, .int .i64 x.aft.dev, .int .i64 x.aft.seq, .int .i64 x.aat, .bool x.gone] 32)).cell? ⟨w.heap.size, 4, none⟩ = some (.int .i64 x.d.seq) := by simp [go_sem]
  have HB := Lib.hid hb
  have HP := Lib.hid (h1.later hb)
  have HV := Lib.hid (h3.later hb)
  clear h0 h1 h2 h3 hb
  cases hh : hasP bl x.d
  all_goals
    have HH := Lib.hid hh
    have HK : Hid (keepJ bl kb x = (hasP bl x.d || !hasV kb x.d)) := by show _ = _; rfl
    clear hh
    go_enter Try.func39, Try.ntmps39
    go_wp2_with fail
    refine (mhas_any _ bl x.d _ HP.out hn).mono ?_
    rintro e w1 ⟨rfl, hb1⟩
    rw [HH.out]
    replace g2 := cell_later hb1 g2
    replace d0 := cell_later hb1 d0
    replace d1 := cell_later hb1 d1
    have HB1 := Lib.hid (below_then HB.out hb1)
    have HV1 := Lib.hid (HV.out.later hb1)
    clear hb1
    go_wp2_with fail
    first
      | (go_ret; exact ⟨ret_bool (by rw [HK.out, HH.out]; simp), HB1.out⟩)
      | (refine (hasV_any _ kb x.d _ HV1.out).mono ?_
         rintro e w2 ⟨rfl, hb2⟩
         have HB2 := Lib.hid (below_then HB1.out hb2)
         clear hb2
         go_wp2_with fail
         go_ret
         exact ⟨ret_bool (by rw [HK.out, HH.out]; simp), HB2.out⟩)
theorem join1_test (w : World) (bl : List Prt) (kb : List Int) (q r : Nat) (h : PartsAt w q bl) (hv : VecAt w r kb) (hn : bl.length ≤ 1000000) : TestP w 39 #[.pointer (some ⟨q, 0, none⟩), .pointer (some ⟨r, 0, none⟩)] (keepJ bl kb) :=
  ⟨enters_of Try.func39 (by kernel_rfl) rfl, fun x W hb => join1_any x bl kb q r W (h.later hb) (hv.later hb) hn⟩

def keepJ2 (bl : List Prt) (kb : List Int) (p : Prt) : Bool := !hasP bl p.d && !hasV kb p.d

set_option maxRecDepth 100000 in
set_option maxHeartbeats 1000000 in
theorem join2_any (x : Prt) (bl : List Prt) (kb : List Int) (q r : Nat) (w : World) (h : PartsAt w q bl) (hv : VecAt w r kb) (hn : bl.length ≤ 1000000) :
    Calls Try.prog 41 #[x.agg, .pointer (some ⟨q, 0, none⟩), .pointer (some ⟨r, 0, none⟩)] w fun e w' => e = .returned (.bool (keepJ2 bl kb x)) ∧ Below w.heap.size w w' := by
  obtain ⟨bo, bc', h0, h1⟩ := h
  obtain ⟨ao, n, c, h2, h3⟩ := hv
  have hb := below_alloc w (.cells #[.int .i64 x.v.k, .int .i64 x.v.n, .string x.v.s, .int .i64 x.d.dev, .int .i64 x.d.seq, .int .i64 x.at_, .int .i64 x.tm, .int .i64 x.aft.dev, .int .i64 x.aft.seq, .int .i64 x.aat, .bool x.gone] 32)
  have g0 := cell_later hb h0
  have g2 := cell_later hb h2
  have d0 : (w.alloc (.cells #[.int .i64 x.v.k, .int .i64 x.v.n, .string x.v.s, .int .i64 x.d.dev, .int .i64 x.d.seq, .int .i64 x.at_, .int .i64 x.tm, .int .i64 x.aft.dev, .int .i64 x.aft.seq, .int .i64 x.aat, .bool x.gone] 32)).cell? ⟨w.heap.size, 3, none⟩ = some (.int .i64 x.d.dev) := by simp [go_sem]
  have d1 : (w.alloc (.cells #[.int .i64 x.v.k, .int .i64 x.v.n, .string x.v.s, .int .i64 x.d.dev, .int .i64 x.d.seq, .int .i64 x.at_, .int .i64 x.tm, .int .i64 x.aft.dev, .int .i64 x.aft.seq, .int .i64 x.aat, .bool x.gone] 32)).cell? ⟨w.heap.size, 4, none⟩ = some (.int .i64 x.d.seq) := by simp [go_sem]
  have HB := Lib.hid hb
  have HP := Lib.hid (h1.later hb)
  have HV := Lib.hid (h3.later hb)
  clear h0 h1 h2 h3 hb
  cases hh : hasP bl x.d
  all_goals
    have HH := Lib.hid hh
    have HK : Hid (keepJ2 bl kb x = (!hasP bl x.d && !hasV kb x.d)) := by show _ = _; rfl
    clear hh
    go_enter Try.func41, Try.ntmps41
    go_wp2_with fail
    refine (mhas_any _ bl x.d _ HP.out hn).mono ?_
    rintro e w1 ⟨rfl, hb1⟩
    rw [HH.out]
    replace g2 := cell_later hb1 g2
    replace d0 := cell_later hb1 d0
    replace d1 := cell_later hb1 d1
    have HB1 := Lib.hid (below_then HB.out hb1)
    have HV1 := Lib.hid (HV.out.later hb1)
    clear hb1
    go_wp2_with fail
    first
      | (go_ret; exact ⟨ret_bool (by rw [HK.out, HH.out]; simp), HB1.out⟩)
      | (refine (hasV_any _ kb x.d _ HV1.out).mono ?_
         rintro e w2 ⟨rfl, hb2⟩
         have HB2 := Lib.hid (below_then HB1.out hb2)
         clear hb2
         go_wp2_with fail
         go_ret
         exact ⟨ret_bool (by rw [HK.out, HH.out]; simp), HB2.out⟩)
theorem join2_test (w : World) (bl : List Prt) (kb : List Int) (q r : Nat) (h : PartsAt w q bl) (hv : VecAt w r kb) (hn : bl.length ≤ 1000000) : TestP w 41 #[.pointer (some ⟨q, 0, none⟩), .pointer (some ⟨r, 0, none⟩)] (keepJ2 bl kb) :=
  ⟨enters_of Try.func41 (by kernel_rfl) rfl, fun x W hb => join2_any x bl kb q r W (h.later hb) (hv.later hb) hn⟩

def cmpP (x y : Prt) : Int := cmpD x.d y.d
theorem ltC_cmpP : ltC cmpP = ltP := by
  funext x y
  unfold ltC cmpP ltP
  rw [← cmpD_neg]

set_option maxRecDepth 100000 in
set_option maxHeartbeats 1000000 in
theorem join3_any (x y : Prt) (w : World) : Calls Try.prog 43 #[x.agg, y.agg] w fun e w' => e = .returned (.int .i64 (cmpP x y)) ∧ Below w.heap.size w w' := by
  have hb := below_alloc_then (below_alloc (w.alloc (.cells #[.int .i64 x.v.k, .int .i64 x.v.n, .string x.v.s, .int .i64 x.d.dev, .int .i64 x.d.seq, .int .i64 x.at_, .int .i64 x.tm, .int .i64 x.aft.dev, .int .i64 x.aft.seq, .int .i64 x.aat, .bool x.gone] 32)) (.cells #[.int .i64 y.v.k, .int .i64 y.v.n, .string y.v.s, .int .i64 y.d.dev, .int .i64 y.d.seq, .int .i64 y.at_, .int .i64 y.tm, .int .i64 y.aft.dev, .int .i64 y.aft.seq, .int .i64 y.aat, .bool y.gone] 32))
  have HB := Lib.hid hb
  clear hb
  go_enter Try.func43, Try.ntmps43
  go_wp2_with fail
  refine (byDots_any x.d y.d _).mono ?_
  rintro e w1 ⟨rfl, hb1⟩
  have HB1 := Lib.hid (below_then HB.out hb1)
  clear hb1
  go_wp2_with fail
  go_ret
  exact ⟨rfl, HB1.out⟩

def JoinPost (w : World) (l : List Prt) (e : Ending) (w' : World) : Prop :=
  ∃ v', e = .returned (.agg #[.int .i64 1, .int .i64 0, .int .i64 0, .string ⟨#[]⟩, v']) ∧ PRd w' v' l ∧ Below w.heap.size w w'

set_option maxRecDepth 100000 in
set_option maxHeartbeats 4000000 in
theorem join_any (k1 k2 : Int) (cv dv : Val) (va vb vk vl : Value) (a b : List Prt) (ka kb : List Int) (w : World) (ha : PRd w va a) (hb : PRd w vb b) (hk : Rd w vk ka.length (ka.map ic)) (hl : Rd w vl kb.length (kb.map ic)) (hn : a.length ≤ 1000) (hm : b.length ≤ 1000) :
    Calls Try.prog 17 #[.agg #[.int .i64 k1, .int .i64 cv.k, .int .i64 cv.n, .string cv.s, va], .agg #[.int .i64 k2, .int .i64 dv.k, .int .i64 dv.n, .string dv.s, vb], vk, vl] w (JoinPost w (joinL a b ka kb)) := by
  obtain ⟨ao, ac, rfl, _⟩ := id ha
  obtain ⟨bo, bc', rfl, _⟩ := id hb
  obtain ⟨ko, kc, rfl, _⟩ := id hk
  obtain ⟨lo, lc, rfl, _⟩ := id hl
  obtain ⟨w1, hw1⟩ : ∃ w1, ((((w.alloc (.cells #[.int .i64 k1, .int .i64 cv.k, .int .i64 cv.n, .string cv.s, .slice ao a.length ac] 26)).alloc (.cells #[.int .i64 k2, .int .i64 dv.k, .int .i64 dv.n, .string dv.s, .slice bo b.length bc'] 26)).alloc (.cells #[.slice ko ka.length kc] 34)).alloc (.cells #[.slice lo kb.length lc] 34)).alloc (.cells #[.int .i64 0, .int .i64 0, .int .i64 0, .string ⟨#[]⟩, .slice none 0 0] 26) = w1 := ⟨_, rfl⟩
  have hb1 : Below w.heap.size w w1 := by rw [← hw1]; exact below_alloc_then (below_alloc_then (below_alloc_then (below_alloc_then (below_alloc _ _))))
  have hsz : w1.heap.size = w.heap.size + 5 := by rw [← hw1]; simp
  have b0 : Bx w1 w.heap.size #[.int .i64 k1, .int .i64 cv.k, .int .i64 cv.n, .string cv.s, .slice ao a.length ac] 26 := by rw [← hw1]; exact bx_later (below_alloc_then (below_alloc_then (below_alloc_then (below_alloc _ _)))) (bx_new (by simp))
  have b1 : Bx w1 (w.heap.size + 1) #[.int .i64 k2, .int .i64 dv.k, .int .i64 dv.n, .string dv.s, .slice bo b.length bc'] 26 := by rw [← hw1]; exact bx_later (below_alloc_then (below_alloc_then (below_alloc _ _))) (bx_new (by simp))
  have b2 : Bx w1 (w.heap.size + 2) #[.slice ko ka.length kc] 34 := by rw [← hw1]; exact bx_later (below_alloc_then (below_alloc _ _)) (bx_new (by simp))
  have b3 : Bx w1 (w.heap.size + 3) #[.slice lo kb.length lc] 34 := by rw [← hw1]; exact bx_later (below_alloc _ _) (bx_new (by simp))
  have b4 : Bx w1 (w.heap.size + 4) #[.int .i64 0, .int .i64 0, .int .i64 0, .string ⟨#[]⟩, .slice none 0 0] 26 := by rw [← hw1]; exact bx_new (by simp)
  have pa : PartsAt w1 w.heap.size a := ⟨_, _, cell_of_box b0 4 rfl, ha.later hb1⟩
  have pb : PartsAt w1 (w.heap.size + 1) b := ⟨_, _, cell_of_box b1 4 rfl, hb.later hb1⟩
  have ua : VecAt w1 (w.heap.size + 2) ka := ⟨_, _, _, cell_of_box b2 0 rfl, hk.later hb1⟩
  have ub : VecAt w1 (w.heap.size + 3) kb := ⟨_, _, _, cell_of_box b3 0 rfl, hl.later hb1⟩
  have HKE := Lib.hid (kept_any (.slice ao a.length ac) a w1 (join1_test w1 b kb _ _ pb ub (by omega)) (ha.later hb1) (by omega))
  have hkb := fun w2 (h : Below w1.heap.size w1 w2) => kept_any (.slice bo b.length bc') b w2 (join2_test w2 a ka _ _ (pa.later h) (ua.later h) (by omega)) (hb.later (below_then hb1 h)) (by omega)
  have HKB := Lib.hid hkb
  have HW := Lib.hid hw1
  have HBW1 := Lib.hid hb1
  have HSZ := Lib.hid hsz
  have B1 := Lib.hid b1
  have B4 := Lib.hid b4
  have B4o := Lib.hid b4
  have x4 := cell_of_box b0 4 rfl
  clear hw1 hb1 hsz b0 b1 b2 b3 b4 pa pb ua ub hkb ha hb hk hl
  go_enter Try.func17, Try.ntmps17
  go_wp2_with fail
  rw [HW.out]
  refine HKE.out.mono ?_
  rintro e w2 ⟨v1, rfl, hown2, hb2⟩
  have y4 := cell_of_box (bx_later hb2 B1.out) 4 rfl
  obtain ⟨a1, c1, rfl, hnc, hcm, _, _⟩ := Rd.of_own hown2
  obtain ⟨K, hK⟩ : ∃ K, a.filter (keepJ b kb) = K := ⟨_, rfl⟩
  have hKl : K.length ≤ 1000 := by rw [← hK]; exact Nat.le_trans (List.length_filter_le _ _) hn
  rw [hK] at hown2 ⊢
  have HK := Lib.hid hK
  have HO2 := Lib.hid hown2
  have HB2 := Lib.hid hb2
  have HK2 := Lib.hid (HKB.out w2 hb2)
  have B4 := Lib.hid (bx_later hb2 B4.out)
  clear hown2 hb2 HKE hK x4 hcm hnc
  go_wp2_with fail
  refine HK2.out.mono ?_
  rintro e w3 ⟨v2, rfl, hown3, hb3⟩
  obtain ⟨L, hL⟩ : ∃ L, b.filter (keepJ2 a ka) = L := ⟨_, rfl⟩
  have hLl : L.length ≤ 1000 := by rw [← hL]; exact Nat.le_trans (List.length_filter_le _ _) hm
  rw [hL] at hown3
  have hsrc : Src Try.prog w3 11 v2 L.length (prtCs L) := Src.of_rd (Rd.of_own hown3) (prtCs_length _)
  obtain ⟨a2, c2, rfl, _⟩ := Rd.of_own hown3
  have HL := Lib.hid hL
  have HS := Lib.hid hsrc
  have HB3 := Lib.hid hb3
  have HO3 := Lib.hid (own_later HO2.out hb3)
  have B4 := Lib.hid (bx_later hb3 B4.out)
  clear hown3 hb3 hL hsrc HK2 y4
  go_wp2_with (at_builtin; refine wpList_app elP ⟨_, elP.ty, fun k h => by cases h⟩ rfl (.tmp 14) (.tmp 18) rfl rfl rfl HO3.out HS.out (oneP L) (by simp only [maxLen]; omega) (by omega) (Nat.le_trans HB2.out.size HB3.out.size) ?_; intro v4 w4 own4 grow4 _blk4; have HO4 := Lib.hid own4; have HG4 := Lib.hid grow4; clear own4 grow4 _blk4)
  have hown4 : w4.ownsRow w1.heap.size 32 11 v4 (K ++ L).length (prtCs (K ++ L)) := by
    rw [prtCs_app, List.length_append]; exact HO4.out
  have hb4 : Below w1.heap.size w1 w4 := (below_then HB2.out HB3.out).grown HG4.out (below_then HB2.out HB3.out).size (fun kk hk => (HO3.out.lt kk hk).1)
  have hst := sortP_any 43 w1 w1.heap.size v4 (K ++ L) w4 hown4 hb4 (Nat.le_refl _) (by rw [List.length_append]; omega) (enters_of Try.func43 (by kernel_rfl) rfl) cmpP ltC_cmpP (fun x y W => join3_any x y W)
  obtain ⟨a4, c4, rfl, _⟩ := Rd.of_own hown4
  have HST := Lib.hid hst
  have B4 := Lib.hid (bx_grown HG4.out B4.out (fun e => by have := (HO3.out.lt _ e).1; have := HSZ.out; omega))
  have HB4 := Lib.hid hb4
  have HFAR := Lib.hid (own_far hown4)
  clear hst hown4 hb4
  go_wp2_with fail
  refine HST.out.mono ?_
  rintro e w5 ⟨rfl, hr5, hb5, _⟩
  have hn5 : (K ++ L).length = (isortL ltP (K ++ L)).length := (isortL_length _).symm
  have hj : joinL a b ka kb = isortL ltP (K ++ L) := by rw [← HK.out, ← HL.out]; rfl
  have b5 := bx_later hb5 B4o.out
  have z0 := cell_of_box b5 0 rfl
  have z1 := cell_of_box b5 1 rfl
  have z2 := cell_of_box b5 2 rfl
  have z3 := cell_of_box b5 3 rfl
  have z4 := cell_of_box b5 4 rfl
  have f0 := frozen_of_box b5 0
  have f1 := frozen_of_box b5 1
  have f2 := frozen_of_box b5 2
  have f3 := frozen_of_box b5 3
  have f4 := frozen_of_box b5 4
  have HR5 := Lib.hid hr5
  have HBEL := Lib.hid (below_then HBW1.out hb5)
  have HJ := Lib.hid hj
  have HN5 := Lib.hid hn5
  clear hr5 hb5 b5 hj hn5 HST
  go_wp2_with fail
  refine bodyPost_ret (v := .agg #[.int .i64 1, .int .i64 0, .int .i64 0, .string ⟨#[]⟩, .slice a4 (K ++ L).length c4]) (by simp [results, Try.results17, go_sem, z0, z1, z2, z3, z4]) rfl ⟨.slice a4 (K ++ L).length c4, rfl, ?_, ?_⟩
  · show Rd _ _ _ _
    rw [HJ.out, ← HN5.out]
    refine Rd.but (S := fun kk => kk = w.heap.size + 4) HR5.out ?_ fun aa haa hs => by have := HFAR.out aa haa; have := HSZ.out; omega
    iterate 5 (refine But.set (S := fun kk => kk = w.heap.size + 4) ?_ (by rfl) _)
    exact But.refl _ _
  · repeat' (first | with_reducible apply Below.setCell | exact HBEL.out)
    all_goals (simp <;> omega)
end Go.Proofs.Ytagbaejgjhmokaa
