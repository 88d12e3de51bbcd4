/-
  Layer 7 (multi): the document's Join. (printed by tools/gen_mi.py)
-/
import Derived.Test.YtagbaejgjhmokaaMH
import Derived.Test.YtagbaejgjhmokaaMJ
namespace Go.Proofs.Ytagbaejgjhmokaa
open Go.RowKit Go.Sort Go.BigFrame

/-- What the document's Join keeps in its loops: the box of what comes of it. -/
structure JnR (w w1 wr : World) (O : List Prt) : Prop where
  box : ∃ a c, Bx wr (w.heap.size + 3) #[.int .i64 1, .int .i64 0, .int .i64 0, .string ⟨#[]⟩, .slice a O.length c] 26 ∧ OwnP wr w1.heap.size (.slice a O.length c) O
  but : But (fun j => j = w.heap.size + 3 ∨ w1.heap.size ≤ j) w1 wr

theorem JnR.later {w w1 wr w2 : World} {O : List Prt} (h : JnR w w1 wr O) (hb : Below wr.heap.size wr w2) : JnR w w1 w2 O := by
  obtain ⟨⟨a, c, h1, h2⟩, h3⟩ := h
  exact ⟨⟨a, c, bx_later hb h1, own_later h2 hb⟩, h3.trans (But.of_below (S := fun _ => False) hb) (fun _ _ h => h.elim)⟩
theorem JnR.put {w w1 w2 w3 : World} {O O' : List Prt} {v : Value} (hsz : w1.heap.size = w.heap.size + 4) (h : JnR w w1 w2 O) (hb : Below w2.heap.size w2 w3) (ho : OwnP w3 w2.heap.size v O') :
    ∃ a c, v = .slice a O'.length c ∧ (∃ x y, Bx w3 (w.heap.size + 3) #[.int .i64 1, .int .i64 0, .int .i64 0, .string ⟨#[]⟩, .slice x O.length y] 26) ∧ JnR w w1 (w3.setCell ⟨w.heap.size + 3, 4, none⟩ (.slice a O'.length c)) O' := by
  obtain ⟨a, c, rfl, _⟩ := Rd.of_own ho
  have h3 := h.later hb
  obtain ⟨⟨x, y, h1, _⟩, hbut⟩ := h3
  refine ⟨a, c, rfl, ⟨x, y, h1⟩, ⟨⟨a, c, bx_set4 h1 _, ?_⟩, hbut.set (.inl rfl) _⟩⟩
  exact own_setq (own_monoP ho h.but.size) (by omega) 4 _

set_option maxRecDepth 100000 in
set_option maxHeartbeats 8000000 in
theorem refJoin_any (k1 k2 : Int) (cv dv : Val) (va vb vk vl : Value) (a b : List Prt) (ka kb : List Int) (w : World) (ha : PRd w va a) (hb : PRd w vb b) (hk : Rd w vk ka.length (ka.map ic)) (hl : Rd w vl kb.length (kb.map ic)) (hn : a.length ≤ 400) (hm : b.length ≤ 400) :
    Calls Try.prog 18 #[.agg #[.int .i64 k1, .int .i64 cv.k, .int .i64 cv.n, .string cv.s, va], .agg #[.int .i64 k2, .int .i64 dv.k, .int .i64 dv.n, .string dv.s, vb], vk, vl] w (JoinPost w (joinL a b ka kb)) := by
  obtain ⟨ao, ac, rfl, hna, hca, _, _⟩ := id ha
  obtain ⟨bo, bc', rfl, hnb, hcb, _, _⟩ := id hb
  obtain ⟨ko, kc, rfl, _⟩ := id hk
  obtain ⟨lo, lc, rfl, _⟩ := id hl
  have HA := Lib.hid ha
  have HB_ := Lib.hid hb
  have HKA := Lib.hid hk
  have HKB := Lib.hid hl
  obtain ⟨n, hla⟩ : ∃ n, a.length = n := ⟨_, rfl⟩
  obtain ⟨m, hlb⟩ : ∃ m, b.length = m := ⟨_, rfl⟩
  have HLA := Lib.hid hla
  have HLB := Lib.hid hlb
  rw [hla] at hna hn
  rw [hlb] at hnb hm
  rw [hla, hlb]
  unfold maxLen at hca hcb
  clear ha hb hk hl hla hlb
  obtain ⟨w1, hw1⟩ : ∃ w1, (((w.alloc (.cells #[.int .i64 k1, .int .i64 cv.k, .int .i64 cv.n, .string cv.s, .slice ao n ac] 26)).alloc (.cells #[.int .i64 k2, .int .i64 dv.k, .int .i64 dv.n, .string dv.s, .slice bo m bc'] 26)).alloc (.cells #[.int .i64 0, .int .i64 0, .int .i64 0, .string ⟨#[]⟩, .slice none 0 0] 26)).alloc (.cells #[.int .i64 1, .int .i64 0, .int .i64 0, .string ⟨#[]⟩, .slice none 0 0] 26) = w1 := ⟨_, rfl⟩
  have hb1 : Below w.heap.size w w1 := by rw [← hw1]; exact below_alloc_then (below_alloc_then (below_alloc_then (below_alloc _ _)))
  have hsz : w1.heap.size = w.heap.size + 4 := by rw [← hw1]; simp
  have b0 : Bx w1 w.heap.size #[.int .i64 k1, .int .i64 cv.k, .int .i64 cv.n, .string cv.s, .slice ao n ac] 26 := by rw [← hw1]; exact bx_later (below_alloc_then (below_alloc_then (below_alloc _ _))) (bx_new (by simp))
  have b1 : Bx w1 (w.heap.size + 1) #[.int .i64 k2, .int .i64 dv.k, .int .i64 dv.n, .string dv.s, .slice bo m bc'] 26 := by rw [← hw1]; exact bx_later (below_alloc_then (below_alloc _ _)) (bx_new (by simp))
  have b2 : Bx w1 (w.heap.size + 2) #[.int .i64 0, .int .i64 0, .int .i64 0, .string ⟨#[]⟩, .slice none 0 0] 26 := by rw [← hw1]; exact bx_later (below_alloc _ _) (bx_new (by simp))
  have b3 : Bx w1 (w.heap.size + 3) #[.int .i64 1, .int .i64 0, .int .i64 0, .string ⟨#[]⟩, .slice none 0 0] 26 := by rw [← hw1]; exact bx_new (by simp)
  have HW := Lib.hid hw1
  have HBW1 := Lib.hid hb1
  have HSZ := Lib.hid hsz
  have B0 := Lib.hid b0
  have B1 := Lib.hid b1
  have B2 := Lib.hid b2
  have B3 := Lib.hid b3
  clear hw1 hb1 hsz b0 b1 b2 b3
  go_enter Try.func18, Try.ntmps18
  go_wp2_with fail
  rw [HW.out]
  go_loopw [10] (fun vi wr => ∃ k : Nat, k ≤ n ∧ vi = .int .i64 k ∧ Hid (JnR w w1 wr (isortL ltP ((a.take k).filter (keepJ b kb))))) (fun vi _ => n - (intOf vi).toNat)
  case atStart => exact ⟨0, Nat.zero_le _, rfl, ⟨⟨none, 0, B3.out, World.ownsRow_nil _ _ _ _⟩, But.refl _ _⟩⟩
  case round =>
    obtain ⟨k, hk, rfl, hR⟩ := hrel
    rename World => wr
    have hbut := hR.out.but
    have hbel : Below w.heap.size w wr := HBW1.out.trans (hbut.below HBW1.out.size fun kk hk => by have := HSZ.out; rcases hk with rfl | hk <;> omega)
    have hold : ∀ {q : Nat} {cs : Array Value} {T : TypeId}, q < w.heap.size + 3 → Bx w1 q cs T → Bx wr q cs T := fun hq h => hbut.blk h (by have := HSZ.out; omega)
    have y4 := cell_of_box (hold (by omega) B0.out) 4 rfl
    by_cases hlt : k < n
    · have hkl : k < a.length := by have := HLA.out; omega
      obtain ⟨x, hx⟩ : ∃ x, a[k] = x := ⟨_, rfl⟩
      obtain ⟨bb, oo, x1, c0, c1, c2, c3, c4, c5, c6, c7, c8, c9, c10, _⟩ := rd_prt HA.out rfl k hkl hx
      rw [HLA.out] at x1
      replace c0 := cell_later hbel c0
      replace c1 := cell_later hbel c1
      replace c2 := cell_later hbel c2
      replace c3 := cell_later hbel c3
      replace c4 := cell_later hbel c4
      replace c5 := cell_later hbel c5
      replace c6 := cell_later hbel c6
      replace c7 := cell_later hbel c7
      replace c8 := cell_later hbel c8
      replace c9 := cell_later hbel c9
      replace c10 := cell_later hbel c10
      have htk : (a.take (k + 1)).filter (keepJ b kb) = (a.take k).filter (keepJ b kb) ++ if keepJ b kb x then [x] else [] := by
        rw [List.take_succ_eq_append_getElem hkl, List.filter_append, hx]
        cases hq : keepJ b kb x <;> simp [hq]
      obtain ⟨O, hO⟩ : ∃ O, isortL ltP ((a.take k).filter (keepJ b kb)) = O := ⟨_, rfl⟩
      have hol : O.length ≤ 1000 := by
        rw [← hO, isortL_length]
        exact Nat.le_trans (List.length_filter_le _ _) (by rw [List.length_take]; omega)
      have HOL := Lib.hid hol
      have HYES0 : Hid (keepJ b kb x = true → isortL ltP ((a.take (k + 1)).filter (keepJ b kb)) = putD x O) := fun h => by rw [htk, h, ← hO, putD_isort]; rfl
      have HNO0 : Hid (keepJ b kb x = false → isortL ltP ((a.take (k + 1)).filter (keepJ b kb)) = O) := fun h => by rw [htk, h, ← hO]; simp
      have HR : Hid (JnR w w1 wr O) := by rw [← hO]; exact hR.out
      have HBX := Lib.hid (below_alloc wr (.cells #[.int .i64 x.v.k, .int .i64 x.v.n, .string x.v.s, .int .i64 x.d.dev, .int .i64 x.d.seq, .int .i64 x.at_, .int .i64 x.tm, .int .i64 x.aft.dev, .int .i64 x.aft.seq, .int .i64 x.aat, .bool x.gone] 32))
      have BX : Hid (Bx (wr.alloc (.cells #[.int .i64 x.v.k, .int .i64 x.v.n, .string x.v.s, .int .i64 x.d.dev, .int .i64 x.d.seq, .int .i64 x.at_, .int .i64 x.tm, .int .i64 x.aft.dev, .int .i64 x.aft.seq, .int .i64 x.aat, .bool x.gone] 32)) wr.heap.size #[.int .i64 x.v.k, .int .i64 x.v.n, .string x.v.s, .int .i64 x.d.dev, .int .i64 x.d.seq, .int .i64 x.at_, .int .i64 x.tm, .int .i64 x.aft.dev, .int .i64 x.aft.seq, .int .i64 x.aat, .bool x.gone] 32) := bx_new rfl
      have bxo := bx_later HBX.out (hold (by omega) B1.out)
      have g0 := cell_of_box bxo 0 rfl
      have g1 := cell_of_box bxo 1 rfl
      have g2 := cell_of_box bxo 2 rfl
      have g3 := cell_of_box bxo 3 rfl
      have g4 := cell_of_box bxo 4 rfl
      have HOTH : Hid (PRd (wr.alloc (.cells #[.int .i64 x.v.k, .int .i64 x.v.n, .string x.v.s, .int .i64 x.d.dev, .int .i64 x.d.seq, .int .i64 x.at_, .int .i64 x.tm, .int .i64 x.aft.dev, .int .i64 x.aft.seq, .int .i64 x.aat, .bool x.gone] 32)) (.slice bo m bc') b) := by have := HB_.out.later (below_then hbel HBX.out); rw [HLB.out] at this; show Rd _ _ _ _; rw [HLB.out]; exact this
      have HBEL := Lib.hid hbel
      clear hx htk hO hol bxo hold hR hbut hbel
      have HKD : Hid (keepJ b kb x = (hasP b x.d || !hasV kb x.d)) := (by show _ = _; rfl)
      go_wp2_with fail
      refine (refHas_any k2 dv _ b x.d _ HOTH.out (by have := HLA.out; have := HLB.out; omega)).mono ?_
      rintro e w2 ⟨rfl, hb2⟩
      have HB2 := Lib.hid (below_then HBX.out hb2)
      cases hh : hasP b x.d
      all_goals
        have HH := Lib.hid hh
        clear hh
      · have bx2 := bx_later hb2 BX.out
        have d3 := cell_of_box bx2 3 rfl
        have d4 := cell_of_box bx2 4 rfl
        have HV2 := Lib.hid (HKB.out.later (below_then HBEL.out HB2.out))
        clear bx2
        go_wp2_with fail
        refine (refHasV_any _ kb x.d _ HV2.out).mono ?_
        rintro e w3 ⟨rfl, hb3'⟩
        have hb3 := below_then hb2 hb3'
        have HB3 := Lib.hid (below_then HBX.out hb3)
        cases hv : hasV kb x.d
        · have HYES := Lib.hid (HYES0.out (by rw [HKD.out, HH.out, hv]; rfl))
          clear hv hb2 hb3'
          have hr3 := HR.out.later HB3.out
          obtain ⟨⟨oa, oc, hbq, hown⟩, _⟩ := hr3
          have z4 := cell_of_box hbq 4 rfl
          have BX3 := bx_later hb3 BX.out
          have e0 := cell_of_box BX3 0 rfl
          have e1 := cell_of_box BX3 1 rfl
          have e2 := cell_of_box BX3 2 rfl
          have e3 := cell_of_box BX3 3 rfl
          have e4 := cell_of_box BX3 4 rfl
          have e5 := cell_of_box BX3 5 rfl
          have e6 := cell_of_box BX3 6 rfl
          have e7 := cell_of_box BX3 7 rfl
          have e8 := cell_of_box BX3 8 rfl
          have e9 := cell_of_box BX3 9 rfl
          have e10 := cell_of_box BX3 10 rfl
          have hp := put_any (.slice oa O.length oc) O x w3 (Rd.of_own hown) HOL.out
          have HP := Lib.hid hp
          have HR3 := Lib.hid (HR.out.later HB3.out)
          clear hown hbq BX3 hp hb3
          go_wp2_with fail
          refine HP.out.mono ?_
          rintro e w4 ⟨v4, rfl, hown4, hb4⟩
          obtain ⟨a4, c4, rfl, ⟨x4, y4', hbx4⟩, hj4⟩ := HR3.out.put HSZ.out hb4 hown4
          have z5 := cell_of_box hbx4 4 rfl
          have f5 := frozen_of_box hbx4 4
          have HJ4 := Lib.hid hj4
          clear hown4 hb4 hbx4 hj4
          go_wp2_with fail
          go_roundw
          case rel => exact ⟨k + 1, by omega, by go_num, by rw [HYES.out]; exact HJ4.out⟩
          case measure => simp [intOf]; omega
        · have HNO := Lib.hid (HNO0.out (by rw [HKD.out, HH.out, hv]; rfl))
          clear hv hb2 hb3' hb3
          go_wp2_with fail
          go_roundw
          case rel => exact ⟨k + 1, by omega, by go_num, by rw [HNO.out]; exact HR.out.later HB3.out⟩
          case measure => simp [intOf]; omega
      · have HYES := Lib.hid (HYES0.out (by rw [HKD.out, HH.out]; rfl))
        have hb3 := hb2
        have HB3 := HB2
        obtain ⟨w3, hw3⟩ : ∃ w3, w2 = w3 := ⟨_, rfl⟩
        subst hw3
        have hr3 := HR.out.later HB3.out
        obtain ⟨⟨oa, oc, hbq, hown⟩, _⟩ := hr3
        have z4 := cell_of_box hbq 4 rfl
        have BX3 := bx_later hb3 BX.out
        have e0 := cell_of_box BX3 0 rfl
        have e1 := cell_of_box BX3 1 rfl
        have e2 := cell_of_box BX3 2 rfl
        have e3 := cell_of_box BX3 3 rfl
        have e4 := cell_of_box BX3 4 rfl
        have e5 := cell_of_box BX3 5 rfl
        have e6 := cell_of_box BX3 6 rfl
        have e7 := cell_of_box BX3 7 rfl
        have e8 := cell_of_box BX3 8 rfl
        have e9 := cell_of_box BX3 9 rfl
        have e10 := cell_of_box BX3 10 rfl
        have hp := put_any (.slice oa O.length oc) O x w2 (Rd.of_own hown) HOL.out
        have HP := Lib.hid hp
        have HR3 := Lib.hid (HR.out.later HB3.out)
        clear hown hbq BX3 hp hb3
        go_wp2_with fail
        refine HP.out.mono ?_
        rintro e w4 ⟨v4, rfl, hown4, hb4⟩
        obtain ⟨a4, c4, rfl, ⟨x4, y4', hbx4⟩, hj4⟩ := HR3.out.put HSZ.out hb4 hown4
        have z5 := cell_of_box hbx4 4 rfl
        have f5 := frozen_of_box hbx4 4
        have HJ4 := Lib.hid hj4
        clear hown4 hb4 hbx4 hj4
        go_wp2_with fail
        go_roundw
        case rel => exact ⟨k + 1, by omega, by go_num, by rw [HYES.out]; exact HJ4.out⟩
        case measure => simp [intOf]; omega
    · have hkn : n = k := by omega
      subst hkn
      have HR1 : Hid (JnR w w1 wr (isortL ltP (a.filter (keepJ b kb)))) := by have := hR.out; rwa [List.take_of_length_le (l := a) (by have := HLA.out; omega)] at this
      clear hbut hbel hold hR
      go_wp2_with fail
      go_loopw [12] (fun vi wr => ∃ k : Nat, k ≤ m ∧ vi = .int .i64 k ∧ Hid (JnR w w1 wr (isortL ltP (a.filter (keepJ b kb) ++ (b.take k).filter (keepJ2 a ka))))) (fun vi _ => m - (intOf vi).toNat)
      case atStart => exact ⟨0, Nat.zero_le _, rfl, by have := HR1.out; rw [show a.filter (keepJ b kb) ++ (b.take 0).filter (keepJ2 a ka) = a.filter (keepJ b kb) by simp]; exact this⟩
      case round =>
        obtain ⟨k, hk, rfl, hR⟩ := hrel
        rename World => wr
        have hbut := hR.out.but
        have hbel : Below w.heap.size w wr := HBW1.out.trans (hbut.below HBW1.out.size fun kk hk => by have := HSZ.out; rcases hk with rfl | hk <;> omega)
        have hold : ∀ {q : Nat} {cs : Array Value} {T : TypeId}, q < w.heap.size + 3 → Bx w1 q cs T → Bx wr q cs T := fun hq h => hbut.blk h (by have := HSZ.out; omega)
        have y4 := cell_of_box (hold (by omega) B1.out) 4 rfl
        by_cases hlt : k < m
        · have hkl : k < b.length := by have := HLB.out; omega
          obtain ⟨x, hx⟩ : ∃ x, b[k] = x := ⟨_, rfl⟩
          obtain ⟨bb, oo, x1, c0, c1, c2, c3, c4, c5, c6, c7, c8, c9, c10, _⟩ := rd_prt HB_.out rfl k hkl hx
          rw [HLB.out] at x1
          replace c0 := cell_later hbel c0
          replace c1 := cell_later hbel c1
          replace c2 := cell_later hbel c2
          replace c3 := cell_later hbel c3
          replace c4 := cell_later hbel c4
          replace c5 := cell_later hbel c5
          replace c6 := cell_later hbel c6
          replace c7 := cell_later hbel c7
          replace c8 := cell_later hbel c8
          replace c9 := cell_later hbel c9
          replace c10 := cell_later hbel c10
          have htk : a.filter (keepJ b kb) ++ (b.take (k + 1)).filter (keepJ2 a ka) = a.filter (keepJ b kb) ++ (b.take k).filter (keepJ2 a ka) ++ if keepJ2 a ka x then [x] else [] := by
            rw [List.take_succ_eq_append_getElem hkl, List.filter_append, hx]
            cases hq : keepJ2 a ka x <;> simp [hq]
          obtain ⟨O, hO⟩ : ∃ O, isortL ltP (a.filter (keepJ b kb) ++ (b.take k).filter (keepJ2 a ka)) = O := ⟨_, rfl⟩
          have hol : O.length ≤ 1000 := by
            rw [← hO, isortL_length]
            rw [List.length_append]
            have h1 := List.length_filter_le (keepJ b kb) a
            have h2 := Nat.le_trans (List.length_filter_le (keepJ2 a ka) (b.take k)) (by rw [List.length_take]; exact Nat.min_le_left _ _)
            have := HLA.out
            omega
          have HOL := Lib.hid hol
          have HYES0 : Hid (keepJ2 a ka x = true → isortL ltP (a.filter (keepJ b kb) ++ (b.take (k + 1)).filter (keepJ2 a ka)) = putD x O) := fun h => by rw [htk, h, ← hO, putD_isort]; rfl
          have HNO0 : Hid (keepJ2 a ka x = false → isortL ltP (a.filter (keepJ b kb) ++ (b.take (k + 1)).filter (keepJ2 a ka)) = O) := fun h => by rw [htk, h, ← hO]; simp
          have HR : Hid (JnR w w1 wr O) := by rw [← hO]; exact hR.out
          have HBX := Lib.hid (below_alloc wr (.cells #[.int .i64 x.v.k, .int .i64 x.v.n, .string x.v.s, .int .i64 x.d.dev, .int .i64 x.d.seq, .int .i64 x.at_, .int .i64 x.tm, .int .i64 x.aft.dev, .int .i64 x.aft.seq, .int .i64 x.aat, .bool x.gone] 32))
          have BX : Hid (Bx (wr.alloc (.cells #[.int .i64 x.v.k, .int .i64 x.v.n, .string x.v.s, .int .i64 x.d.dev, .int .i64 x.d.seq, .int .i64 x.at_, .int .i64 x.tm, .int .i64 x.aft.dev, .int .i64 x.aft.seq, .int .i64 x.aat, .bool x.gone] 32)) wr.heap.size #[.int .i64 x.v.k, .int .i64 x.v.n, .string x.v.s, .int .i64 x.d.dev, .int .i64 x.d.seq, .int .i64 x.at_, .int .i64 x.tm, .int .i64 x.aft.dev, .int .i64 x.aft.seq, .int .i64 x.aat, .bool x.gone] 32) := bx_new rfl
          have bxo := bx_later HBX.out (hold (by omega) B0.out)
          have g0 := cell_of_box bxo 0 rfl
          have g1 := cell_of_box bxo 1 rfl
          have g2 := cell_of_box bxo 2 rfl
          have g3 := cell_of_box bxo 3 rfl
          have g4 := cell_of_box bxo 4 rfl
          have HOTH : Hid (PRd (wr.alloc (.cells #[.int .i64 x.v.k, .int .i64 x.v.n, .string x.v.s, .int .i64 x.d.dev, .int .i64 x.d.seq, .int .i64 x.at_, .int .i64 x.tm, .int .i64 x.aft.dev, .int .i64 x.aft.seq, .int .i64 x.aat, .bool x.gone] 32)) (.slice ao n ac) a) := by have := HA.out.later (below_then hbel HBX.out); rw [HLA.out] at this; show Rd _ _ _ _; rw [HLA.out]; exact this
          have HBEL := Lib.hid hbel
          clear hx htk hO hol bxo hold hR hbut hbel
          have HKD : Hid (keepJ2 a ka x = (!hasP a x.d && !hasV ka x.d)) := (by show _ = _; rfl)
          go_wp2_with fail
          refine (refHas_any k1 cv _ a x.d _ HOTH.out (by have := HLA.out; have := HLB.out; omega)).mono ?_
          rintro e w2 ⟨rfl, hb2⟩
          have HB2 := Lib.hid (below_then HBX.out hb2)
          cases hh : hasP a x.d
          all_goals
            have HH := Lib.hid hh
            clear hh
          · have bx2 := bx_later hb2 BX.out
            have d3 := cell_of_box bx2 3 rfl
            have d4 := cell_of_box bx2 4 rfl
            have HV2 := Lib.hid (HKA.out.later (below_then HBEL.out HB2.out))
            clear bx2
            go_wp2_with fail
            refine (refHasV_any _ ka x.d _ HV2.out).mono ?_
            rintro e w3 ⟨rfl, hb3'⟩
            have hb3 := below_then hb2 hb3'
            have HB3 := Lib.hid (below_then HBX.out hb3)
            cases hv : hasV ka x.d
            · have HYES := Lib.hid (HYES0.out (by rw [HKD.out, HH.out, hv]; rfl))
              clear hv hb2 hb3'
              have hr3 := HR.out.later HB3.out
              obtain ⟨⟨oa, oc, hbq, hown⟩, _⟩ := hr3
              have z4 := cell_of_box hbq 4 rfl
              have BX3 := bx_later hb3 BX.out
              have e0 := cell_of_box BX3 0 rfl
              have e1 := cell_of_box BX3 1 rfl
              have e2 := cell_of_box BX3 2 rfl
              have e3 := cell_of_box BX3 3 rfl
              have e4 := cell_of_box BX3 4 rfl
              have e5 := cell_of_box BX3 5 rfl
              have e6 := cell_of_box BX3 6 rfl
              have e7 := cell_of_box BX3 7 rfl
              have e8 := cell_of_box BX3 8 rfl
              have e9 := cell_of_box BX3 9 rfl
              have e10 := cell_of_box BX3 10 rfl
              have hp := put_any (.slice oa O.length oc) O x w3 (Rd.of_own hown) HOL.out
              have HP := Lib.hid hp
              have HR3 := Lib.hid (HR.out.later HB3.out)
              clear hown hbq BX3 hp hb3
              go_wp2_with fail
              refine HP.out.mono ?_
              rintro e w4 ⟨v4, rfl, hown4, hb4⟩
              obtain ⟨a4, c4, rfl, ⟨x4, y4', hbx4⟩, hj4⟩ := HR3.out.put HSZ.out hb4 hown4
              have z5 := cell_of_box hbx4 4 rfl
              have f5 := frozen_of_box hbx4 4
              have HJ4 := Lib.hid hj4
              clear hown4 hb4 hbx4 hj4
              go_wp2_with fail
              go_roundw
              case rel => exact ⟨k + 1, by omega, by go_num, by rw [HYES.out]; exact HJ4.out⟩
              case measure => simp [intOf]; omega
            · have HNO := Lib.hid (HNO0.out (by rw [HKD.out, HH.out, hv]; rfl))
              clear hv hb2 hb3' hb3
              go_wp2_with fail
              go_roundw
              case rel => exact ⟨k + 1, by omega, by go_num, by rw [HNO.out]; exact HR.out.later HB3.out⟩
              case measure => simp [intOf]; omega
          · have HNO := Lib.hid (HNO0.out (by rw [HKD.out, HH.out]; rfl))
            clear hb2
            go_wp2_with fail
            go_roundw
            case rel => exact ⟨k + 1, by omega, by go_num, by rw [HNO.out]; exact HR.out.later HB2.out⟩
            case measure => simp [intOf]; omega
        · have hkn : k = m := by omega
          subst hkn
          have hr := hR.out
          rw [List.take_of_length_le (l := b) (by have := HLB.out; omega)] at hr
          obtain ⟨⟨oa, oc, hbq, hown⟩, _⟩ := hr
          have hj : joinL a b ka kb = isortL ltP (a.filter (keepJ b kb) ++ b.filter (keepJ2 a ka)) := rfl
          rw [← hj] at hbq hown
          have hr3 := hold (by omega) B2.out
          have q0 := cell_of_box hbq 0 rfl
          have r0 := cell_of_box hr3 0 rfl
          have fr0 := frozen_of_box hr3 0
          have q1 := cell_of_box hbq 1 rfl
          have r1 := cell_of_box hr3 1 rfl
          have fr1 := frozen_of_box hr3 1
          have q2 := cell_of_box hbq 2 rfl
          have r2 := cell_of_box hr3 2 rfl
          have fr2 := frozen_of_box hr3 2
          have q3 := cell_of_box hbq 3 rfl
          have r3 := cell_of_box hr3 3 rfl
          have fr3 := frozen_of_box hr3 3
          have q4 := cell_of_box hbq 4 rfl
          have r4 := cell_of_box hr3 4 rfl
          have fr4 := frozen_of_box hr3 4
          have HO := Lib.hid hown
          have HBEL := Lib.hid hbel
          clear hr3 hbq hown hj hbut hbel hold hR
          go_wp2_with fail
          refine bodyPost_ret (v := .agg #[.int .i64 1, .int .i64 0, .int .i64 0, .string ⟨#[]⟩, .slice oa (joinL a b ka kb).length oc]) (by simp [results, Try.results18, go_sem, r0, r1, r2, r3, r4]) rfl ⟨.slice oa (joinL a b ka kb).length oc, rfl, ?_, ?_⟩
          · refine Rd.of_own (own_but (S := fun kk => kk = w.heap.size + 2) HO.out ?_ fun kk hk hs => by have := (HO.out.lt kk hk).1; have := HSZ.out; omega)
            iterate 5 (refine But.set (S := fun kk => kk = w.heap.size + 2) ?_ (by rfl) _)
            exact But.refl _ _
          · repeat' (first | with_reducible apply Below.setCell | exact HBEL.out)
            all_goals (simp <;> omega)
end Go.Proofs.Ytagbaejgjhmokaa
