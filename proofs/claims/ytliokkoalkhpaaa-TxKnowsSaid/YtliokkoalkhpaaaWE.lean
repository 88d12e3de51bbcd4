/-
  Layer 17 (tx): the living program. (printed by tools/gen_wc.py)
-/
import Derived.Test.YtliokkoalkhpaaaWD
namespace Go.Proofs.Ytliokkoalkhpaaa
open Go.RowKit Go.Sort Go.BigFrame
attribute [local irreducible] FlowW

theorem knew_plain {dev seq time note whom upto : Int} {fm : Bool} {ad ao ae ah : Option Addr} {no co ne ce nh ch : Nat} (d q : Int) (r : Bool) {w : World} (hr : (decide (d = dev ∧ q = seq) || hasV [1, 2] ⟨d, q⟩) = r) (hd : Rd w (.slice ad 2 2) 2 (([1, 2] : List Int).map ic)) :
    Calls Try.prog 16 #[.agg #[.int .i64 dev, .int .i64 seq, .int .i64 time, .slice ad 2 2, .slice ao no co, .slice ae ne ce, .bool fm, .slice ah nh ch, .int .i64 note, .int .i64 whom, .int .i64 upto], .agg #[.int .i64 d, .int .i64 q]] w fun e w' => e = .returned (.bool r) ∧ Below w.heap.size w w' := by
  have h := knew_any (dev := dev) (seq := seq) (time := time) (note := note) (whom := whom) (upto := upto) (fm := fm) (ad := ad) (ao := ao) (ae := ae) (ah := ah) (cd := 2) (no := no) (co := co) (ne := ne) (ce := ce) (nh := nh) (ch := ch) [1, 2] d q w hd
  rw [hr] at h
  exact h
theorem three_new (w : World) (cs : Array Value) (T : TypeId) : Bx (((w.alloc (.cells cs T)).alloc (.cells cs T)).alloc (.cells cs T)).drew w.heap.size cs T ∧ Bx (((w.alloc (.cells cs T)).alloc (.cells cs T)).alloc (.cells cs T)).drew (w.heap.size + 1) cs T ∧ Bx (((w.alloc (.cells cs T)).alloc (.cells cs T)).alloc (.cells cs T)).drew (w.heap.size + 1 + 1) cs T ∧ Ext w (((w.alloc (.cells cs T)).alloc (.cells cs T)).alloc (.cells cs T)).drew := by
  refine ⟨?_, ?_, ?_, ?_⟩
  · show Bx (((w.alloc (.cells cs T)).alloc (.cells cs T)).alloc (.cells cs T)) w.heap.size cs T
    exact bx_later (below_then (below_alloc _ _) (below_alloc _ _)) (bx_new rfl)
  · show Bx (((w.alloc (.cells cs T)).alloc (.cells cs T)).alloc (.cells cs T)) (w.heap.size + 1) cs T
    exact bx_later (below_alloc _ _) (bx_new (by simp))
  · show Bx (((w.alloc (.cells cs T)).alloc (.cells cs T)).alloc (.cells cs T)) (w.heap.size + 1 + 1) cs T
    exact bx_new (by simp)
  · exact (below_alloc_then (below_alloc_then (below_alloc _ _))).drew
set_option maxRecDepth 100000 in
set_option maxHeartbeats 32000000 in
theorem alive_any (w : World) : Calls Try.prog 11 #[] w fun e w' => e = .returned (.bool true) ∧ Below w.heap.size w w' := by
  obtain ⟨w1, hw1⟩ : ∃ w1, ((w.alloc (.cells #[.string ⟨#[105, 100]⟩, .int .i64 0, .int .i64 1, .bool false] 56)).alloc (.cells #[.string ⟨#[97]⟩, .slice (some ⟨w.heap.size, 0, none⟩) 1 1, .slice none 0 0, .slice none 0 0, .slice none 0 0, .slice none 0 0] 62)).alloc (.cells #[.slice (some ⟨w.heap.size + 1, 0, none⟩) 1 1] 51) = w1 := ⟨_, rfl⟩
  have hb1 : Below w.heap.size w w1 := by rw [← hw1]; exact below_then (below_alloc _ _) (below_then (below_alloc _ _) (below_alloc _ _))
  have b0 : Bx w1 w.heap.size #[.string ⟨#[105, 100]⟩, .int .i64 0, .int .i64 1, .bool false] 56 := by rw [← hw1]; exact bx_later (below_then (below_alloc _ _) (below_alloc _ _)) (bx_new rfl)
  have b1 : Bx w1 (w.heap.size + 1) #[.string ⟨#[97]⟩, .slice (some ⟨w.heap.size, 0, none⟩) 1 1, .slice none 0 0, .slice none 0 0, .slice none 0 0, .slice none 0 0] 62 := by rw [← hw1]; exact bx_later (below_alloc _ _) (bx_new (by simp))
  have b2 : Bx w1 (w.heap.size + 1 + 1) #[.slice (some ⟨w.heap.size + 1, 0, none⟩) 1 1] 51 := by rw [← hw1]; exact bx_new (by simp)
  have HW := Lib.hid hw1
  have HB := Lib.hid hb1
  have Hs := Lib.hid b2
  have HTAB := Lib.hid (rd_of_bx b1 1 (by decide))
  have HCOL := Lib.hid (rd_of_bx b0 1 (by decide))
  clear hw1 hb1 b0 b1 b2
  go_enter Try.func11, Try.ntmps11
  go_wp2_with fail
  rw [HW.out]
  refine (plain_any _).mono ?_
  rintro e w2 ⟨ad, ao, ar, rfl, hb2, hd, ho, hr⟩
  replace HB := Lib.hid (below_then HB.out hb2)
  replace Hs := Lib.hid (bx_later hb2 Hs.out)
  replace HTAB := Lib.hid (HTAB.out.later hb2)
  replace HCOL := Lib.hid (HCOL.out.later hb2)
  have HD := Lib.hid hd
  have HO := Lib.hid ho
  have HRW := Lib.hid hr
  clear hb2 hd ho hr
  go_upto_region 3 with fail
  obtain ⟨w3, hw3⟩ : ∃ w3, w2.alloc (.cells #[.int .i64 2, .int .i64 3, .int .i64 5, .slice ad 2 2, .slice ao 1 1, .slice none 0 0, .bool false, .slice none 0 0, .int .i64 0, .int .i64 0, .int .i64 0] 27) = w3 := ⟨_, rfl⟩
  rw [hw3]
  have hb3 : Below w2.heap.size w2 w3 := by rw [← hw3]; exact below_alloc _ _
  have ht3 : Bx w3 w2.heap.size #[.int .i64 2, .int .i64 3, .int .i64 5, .slice ad 2 2, .slice ao 1 1, .slice none 0 0, .bool false, .slice none 0 0, .int .i64 0, .int .i64 0, .int .i64 0] 27 := by rw [← hw3]; exact bx_new rfl
  have hgt : w.heap.size + 1 + 1 < w2.heap.size := (Array.getElem?_eq_some_iff.1 Hs.out).1
  replace HB := Lib.hid (below_then HB.out hb3)
  replace Hs := Lib.hid (bx_later hb3 Hs.out)
  replace HTAB := Lib.hid (HTAB.out.later hb3)
  replace HCOL := Lib.hid (HCOL.out.later hb3)
  replace HD := Lib.hid (HD.out.later hb3)
  replace HO := Lib.hid (HO.out.later hb3)
  replace HRW := Lib.hid (HRW.out.later hb3)
  obtain ⟨gt, hgt'⟩ : ∃ gt, w2.heap.size = gt := ⟨_, rfl⟩
  rw [hgt'] at ht3 hgt ⊢
  have Ht := Lib.hid ht3
  clear hb3 ht3 hw3 hgt'
  have s0 := cell_of_box Hs.out 0 rfl
  have t0 := cell_of_box Ht.out 0 rfl
  have t1 := cell_of_box Ht.out 1 rfl
  have t2 := cell_of_box Ht.out 2 rfl
  have t3 := cell_of_box Ht.out 3 rfl
  have t4 := cell_of_box Ht.out 4 rfl
  have t5 := cell_of_box Ht.out 5 rfl
  have t6 := cell_of_box Ht.out 6 rfl
  have t7 := cell_of_box Ht.out 7 rfl
  have t8 := cell_of_box Ht.out 8 rfl
  have t9 := cell_of_box Ht.out 9 rfl
  have t10 := cell_of_box Ht.out 10 rfl
  go_wp2_with fail
  refine (bytes_plain HD.out HO.out HRW.out).mono ?_
  rintro e w4 ⟨vb, rfl, hob, hb4⟩
  have HP := Lib.hid (parse_plain (Rd.of_own hob))
  clear s0 t0 t1 t2 t3 t4 t5 t6 t7 t8 t9 t10
  replace HB := Lib.hid (below_then HB.out hb4)
  replace Hs := Lib.hid (bx_later hb4 Hs.out)
  replace Ht := Lib.hid (bx_later hb4 Ht.out)
  replace HTAB := Lib.hid (HTAB.out.later hb4)
  replace HCOL := Lib.hid (HCOL.out.later hb4)
  replace HD := Lib.hid (HD.out.later hb4)
  replace HO := Lib.hid (HO.out.later hb4)
  replace HRW := Lib.hid (HRW.out.later hb4)
  clear hb4 hob
  go_wp2_with fail
  refine HP.out.mono ?_
  rintro e w5 ⟨bd, bo, be, bh, cd, co, ce, ch, ms, rfl, hb5, hbd, hbo, hms, hbe, hbh⟩
  replace HB := Lib.hid (below_then HB.out hb5)
  replace Hs := Lib.hid (bx_later hb5 Hs.out)
  replace Ht := Lib.hid (bx_later hb5 Ht.out)
  replace HTAB := Lib.hid (HTAB.out.later hb5)
  replace HCOL := Lib.hid (HCOL.out.later hb5)
  replace HD := Lib.hid (HD.out.later hb5)
  replace HO := Lib.hid (HO.out.later hb5)
  replace HRW := Lib.hid (HRW.out.later hb5)
  have HBD := Lib.hid hbd
  have HBO := Lib.hid hbo
  have HMS := Lib.hid hms
  have HBE := Lib.hid hbe
  have HBH := Lib.hid hbh
  clear hb5 hbd hbo hms hbe hbh HP
  go_upto_region 4 with fail
  obtain ⟨w6, hw6⟩ : ∃ w6, w5.alloc (.cells #[.int .i64 2, .int .i64 3, .int .i64 5, .slice bd 2 cd, .slice bo 1 co, .slice be 0 ce, .bool false, .slice bh 0 ch, .int .i64 0, .int .i64 0, .int .i64 0] 27) = w6 := ⟨_, rfl⟩
  rw [hw6]
  have hb6 : Below w5.heap.size w5 w6 := by rw [← hw6]; exact below_alloc _ _
  have hx6 : Bx w6 w5.heap.size #[.int .i64 2, .int .i64 3, .int .i64 5, .slice bd 2 cd, .slice bo 1 co, .slice be 0 ce, .bool false, .slice bh 0 ch, .int .i64 0, .int .i64 0, .int .i64 0] 27 := by rw [← hw6]; exact bx_new rfl
  have hgx : gt < w5.heap.size := (Array.getElem?_eq_some_iff.1 Ht.out).1
  replace HB := Lib.hid (below_then HB.out hb6)
  replace Hs := Lib.hid (bx_later hb6 Hs.out)
  replace Ht := Lib.hid (bx_later hb6 Ht.out)
  replace HTAB := Lib.hid (HTAB.out.later hb6)
  replace HCOL := Lib.hid (HCOL.out.later hb6)
  replace HD := Lib.hid (HD.out.later hb6)
  replace HO := Lib.hid (HO.out.later hb6)
  replace HRW := Lib.hid (HRW.out.later hb6)
  replace HBD := Lib.hid (HBD.out.later hb6)
  replace HBO := Lib.hid (HBO.out.later hb6)
  replace HBE := Lib.hid (HBE.out.later hb6)
  replace HBH := Lib.hid (HBH.out.later hb6)
  obtain ⟨gx, hgx'⟩ : ∃ gx, w5.heap.size = gx := ⟨_, rfl⟩
  rw [hgx'] at hx6 hgx ⊢
  have Hx := Lib.hid hx6
  clear hb6 hx6 hw6 hgx'
  have t0 := cell_of_box Ht.out 0 rfl
  have t1 := cell_of_box Ht.out 1 rfl
  have t2 := cell_of_box Ht.out 2 rfl
  have t3 := cell_of_box Ht.out 3 rfl
  have t4 := cell_of_box Ht.out 4 rfl
  have t5 := cell_of_box Ht.out 5 rfl
  have t6 := cell_of_box Ht.out 6 rfl
  have t7 := cell_of_box Ht.out 7 rfl
  have t8 := cell_of_box Ht.out 8 rfl
  have t9 := cell_of_box Ht.out 9 rfl
  have t10 := cell_of_box Ht.out 10 rfl
  go_cut [5, 6, 7] (fun s5 s6 s7 wx => ∃ g h i : Nat, s5 = .pointer (some ⟨g, 0, none⟩) ∧ s6 = .pointer (some ⟨h, 0, none⟩) ∧ s7 = .pointer (some ⟨i, 0, none⟩) ∧ Hid (g ≠ h ∧ h ≠ i ∧ g ≠ i) ∧ Hid (Bx wx g #[.int .i64 2, .int .i64 3, .int .i64 5, .slice ad 2 2, .slice ao 1 1, .slice none 0 0, .bool false, .slice none 0 0, .int .i64 0, .int .i64 0, .int .i64 0] 27 ∧ Bx wx h #[.int .i64 2, .int .i64 3, .int .i64 5, .slice ad 2 2, .slice ao 1 1, .slice none 0 0, .bool false, .slice none 0 0, .int .i64 0, .int .i64 0, .int .i64 0] 27 ∧ Bx wx i #[.int .i64 2, .int .i64 3, .int .i64 5, .slice ad 2 2, .slice ao 1 1, .slice none 0 0, .bool false, .slice none 0 0, .int .i64 0, .int .i64 0, .int .i64 0] 27) ∧ Hid (Ext w6 wx) ∧ Hid (w6.heap.size ≤ g ∧ w6.heap.size ≤ h ∧ w6.heap.size ≤ i))
  case first =>
    go_region_held3 (fun w' => w'.cell? ⟨gt, 0, none⟩ = some (.int .i64 2) ∧ w'.cell? ⟨gt, 1, none⟩ = some (.int .i64 3) ∧ w'.cell? ⟨gt, 2, none⟩ = some (.int .i64 5) ∧ w'.cell? ⟨gt, 3, none⟩ = some (.slice ad 2 2) ∧ w'.cell? ⟨gt, 4, none⟩ = some (.slice ao 1 1) ∧ w'.cell? ⟨gt, 5, none⟩ = some (.slice none 0 0) ∧ w'.cell? ⟨gt, 6, none⟩ = some (.bool false) ∧ w'.cell? ⟨gt, 7, none⟩ = some (.slice none 0 0) ∧ w'.cell? ⟨gt, 8, none⟩ = some (.int .i64 0) ∧ w'.cell? ⟨gt, 9, none⟩ = some (.int .i64 0) ∧ w'.cell? ⟨gt, 10, none⟩ = some (.int .i64 0)) (first | exact ⟨cell_later (by first | exact (Below.refl _ _).drew | exact (below_alloc _ _).drew | exact (below_alloc_then (below_alloc _ _)).drew | exact (below_alloc_then (below_alloc_then (below_alloc _ _))).drew ) t0, cell_later (by first | exact (Below.refl _ _).drew | exact (below_alloc _ _).drew | exact (below_alloc_then (below_alloc _ _)).drew | exact (below_alloc_then (below_alloc_then (below_alloc _ _))).drew ) t1, cell_later (by first | exact (Below.refl _ _).drew | exact (below_alloc _ _).drew | exact (below_alloc_then (below_alloc _ _)).drew | exact (below_alloc_then (below_alloc_then (below_alloc _ _))).drew ) t2, cell_later (by first | exact (Below.refl _ _).drew | exact (below_alloc _ _).drew | exact (below_alloc_then (below_alloc _ _)).drew | exact (below_alloc_then (below_alloc_then (below_alloc _ _))).drew ) t3, cell_later (by first | exact (Below.refl _ _).drew | exact (below_alloc _ _).drew | exact (below_alloc_then (below_alloc _ _)).drew | exact (below_alloc_then (below_alloc_then (below_alloc _ _))).drew ) t4, cell_later (by first | exact (Below.refl _ _).drew | exact (below_alloc _ _).drew | exact (below_alloc_then (below_alloc _ _)).drew | exact (below_alloc_then (below_alloc_then (below_alloc _ _))).drew ) t5, cell_later (by first | exact (Below.refl _ _).drew | exact (below_alloc _ _).drew | exact (below_alloc_then (below_alloc _ _)).drew | exact (below_alloc_then (below_alloc_then (below_alloc _ _))).drew ) t6, cell_later (by first | exact (Below.refl _ _).drew | exact (below_alloc _ _).drew | exact (below_alloc_then (below_alloc _ _)).drew | exact (below_alloc_then (below_alloc_then (below_alloc _ _))).drew ) t7, cell_later (by first | exact (Below.refl _ _).drew | exact (below_alloc _ _).drew | exact (below_alloc_then (below_alloc _ _)).drew | exact (below_alloc_then (below_alloc_then (below_alloc _ _))).drew ) t8, cell_later (by first | exact (Below.refl _ _).drew | exact (below_alloc _ _).drew | exact (below_alloc_then (below_alloc _ _)).drew | exact (below_alloc_then (below_alloc_then (below_alloc _ _))).drew ) t9, cell_later (by first | exact (Below.refl _ _).drew | exact (below_alloc _ _).drew | exact (below_alloc_then (below_alloc _ _)).drew | exact (below_alloc_then (below_alloc_then (below_alloc _ _))).drew ) t10⟩ | go_keep) (fail)
    all_goals
      go_wp2_with fail
      go_meet
      have h3 := three_new w6 #[.int .i64 2, .int .i64 3, .int .i64 5, .slice ad 2 2, .slice ao 1 1, .slice none 0 0, .bool false, .slice none 0 0, .int .i64 0, .int .i64 0, .int .i64 0] 27
      exact ⟨_, _, _, rfl, rfl, rfl, ⟨by omega, by omega, by omega⟩, ⟨by first | exact h3.1 | exact h3.2.1 | exact h3.2.2.1, by first | exact h3.1 | exact h3.2.1 | exact h3.2.2.1, by first | exact h3.1 | exact h3.2.1 | exact h3.2.2.1⟩, h3.2.2.2, ⟨by omega, by omega, by omega⟩⟩
  case rest =>
    obtain ⟨g, h, i, rfl, rfl, rfl, hne, hbx, HC, hge⟩ := hcut
    rename World => wc
    obtain ⟨hne1, hne2, hne3⟩ := hne.out
    obtain ⟨hge1, hge2, hge3⟩ := hge.out
    obtain ⟨bg, bh', bi⟩ := hbx.out
    have Hg := Lib.hid bg
    have Hh := Lib.hid bh'
    have Hi := Lib.hid bi
    clear hne hge hbx bg bh' bi t0 t1 t2 t3 t4 t5 t6 t7 t8 t9 t10
    have hgc1 : g < wc.heap.size := (Array.getElem?_eq_some_iff.1 Hg.out).1
    have hgc2 : h < wc.heap.size := (Array.getElem?_eq_some_iff.1 Hh.out).1
    have hgc3 : i < wc.heap.size := (Array.getElem?_eq_some_iff.1 Hi.out).1
    have hcs := HC.out.size
    obtain ⟨gd, hgd⟩ : ∃ gd, wc.heap.size = gd := ⟨_, rfl⟩
    have y3 := cell_of_box (bx_later (below_alloc wc (.cells #[.int .i64 1, .int .i64 1] 3)) Hg.out) 3 rfl
    have yf3 := frozen_of_box (bx_later (below_alloc wc (.cells #[.int .i64 1, .int .i64 1] 3)) Hg.out) 3
    go_upto_region 6 with fail
    clear y3 yf3
    obtain ⟨w8, hw8⟩ : ∃ w8, (wc.alloc (.cells #[.int .i64 1, .int .i64 1] 3)).setCell ⟨g, 3, none⟩ (.slice (some ⟨gd, 0, none⟩) 2 2) = w8 := ⟨_, rfl⟩
    rw [hw8]
    have hg8 : Bx w8 g #[.int .i64 2, .int .i64 3, .int .i64 5, .slice (some ⟨gd, 0, none⟩) 2 2, .slice ao 1 1, .slice none 0 0, .bool false, .slice none 0 0, .int .i64 0, .int .i64 0, .int .i64 0] 27 := by rw [← hw8]; exact bx_set (bx_later (below_alloc _ _) Hg.out) 3 _
    have hh8 : Bx w8 h #[.int .i64 2, .int .i64 3, .int .i64 5, .slice ad 2 2, .slice ao 1 1, .slice none 0 0, .bool false, .slice none 0 0, .int .i64 0, .int .i64 0, .int .i64 0] 27 := by rw [← hw8]; exact bx_set_other (bx_later (below_alloc _ _) Hh.out) (by omega) 3 _
    have hi8 : Bx w8 i #[.int .i64 2, .int .i64 3, .int .i64 5, .slice ad 2 2, .slice ao 1 1, .slice none 0 0, .bool false, .slice none 0 0, .int .i64 0, .int .i64 0, .int .i64 0] 27 := by rw [← hw8]; exact bx_set_other (bx_later (below_alloc _ _) Hi.out) (by omega) 3 _
    have he8 : Bx w8 gd #[.int .i64 1, .int .i64 1] 3 := by rw [← hw8]; exact bx_set_other (bx_new hgd.symm) (by omega) 3 _
    have hb8 : Below w6.heap.size w6 w8 := by rw [← hw8]; exact (Below.alloc HC.out HC.out.size _).setCell hge1 _
    have hs8 : gd < w8.heap.size := (Array.getElem?_eq_some_iff.1 he8).1
    replace Hg := Lib.hid hg8
    replace Hh := Lib.hid hh8
    replace Hi := Lib.hid hi8
    have He := Lib.hid he8
    replace HC := Lib.hid hb8
    clear hw8 hg8 hh8 hi8 he8 hb8
    obtain ⟨gh, hgh⟩ : ∃ gh, w8.heap.size = gh := ⟨_, rfl⟩
    have y7 := cell_of_box (bx_later (below_alloc w8 (.cells #[.int .i64 1, .int .i64 0, .int .i64 0, .int .i64 0, .int .i64 0, .int .i64 0, .int .i64 0] 67)) Hh.out) 7 rfl
    have yf7 := frozen_of_box (bx_later (below_alloc w8 (.cells #[.int .i64 1, .int .i64 0, .int .i64 0, .int .i64 0, .int .i64 0, .int .i64 0, .int .i64 0] 67)) Hh.out) 7
    go_upto_region 7 with fail
    clear y7 yf7
    obtain ⟨w9, hw9⟩ : ∃ w9, (w8.alloc (.cells #[.int .i64 1, .int .i64 0, .int .i64 0, .int .i64 0, .int .i64 0, .int .i64 0, .int .i64 0] 67)).setCell ⟨h, 7, none⟩ (.slice (some ⟨gh, 0, none⟩) 1 1) = w9 := ⟨_, rfl⟩
    rw [hw9]
    have hg8 : Bx w9 g #[.int .i64 2, .int .i64 3, .int .i64 5, .slice (some ⟨gd, 0, none⟩) 2 2, .slice ao 1 1, .slice none 0 0, .bool false, .slice none 0 0, .int .i64 0, .int .i64 0, .int .i64 0] 27 := by rw [← hw9]; exact bx_set_other (bx_later (below_alloc _ _) Hg.out) (by omega) 7 _
    have hh8 : Bx w9 h #[.int .i64 2, .int .i64 3, .int .i64 5, .slice ad 2 2, .slice ao 1 1, .slice none 0 0, .bool false, .slice (some ⟨gh, 0, none⟩) 1 1, .int .i64 0, .int .i64 0, .int .i64 0] 27 := by rw [← hw9]; exact bx_set (bx_later (below_alloc _ _) Hh.out) 7 _
    have hi8 : Bx w9 i #[.int .i64 2, .int .i64 3, .int .i64 5, .slice ad 2 2, .slice ao 1 1, .slice none 0 0, .bool false, .slice none 0 0, .int .i64 0, .int .i64 0, .int .i64 0] 27 := by rw [← hw9]; exact bx_set_other (bx_later (below_alloc _ _) Hi.out) (by omega) 7 _
    have he8 : Bx w9 gd #[.int .i64 1, .int .i64 1] 3 := by rw [← hw9]; exact bx_set_other (bx_later (below_alloc _ _) He.out) (by omega) 7 _
    have hb8 : Below w6.heap.size w6 w9 := by rw [← hw9]; exact (Below.alloc HC.out HC.out.size _).setCell hge2 _
    replace Hg := Lib.hid hg8
    replace Hh := Lib.hid hh8
    replace Hi := Lib.hid hi8
    replace He := Lib.hid he8
    replace HC := Lib.hid hb8
    clear hw9 hg8 hh8 hi8 he8 hb8
    have y4 := cell_of_box Hi.out 4 rfl
    have yf4 := frozen_of_box Hi.out 4
    have y8 := cell_of_box Hi.out 8 rfl
    have yf8 := frozen_of_box Hi.out 8
    have y9 := cell_of_box Hi.out 9 rfl
    have yf9 := frozen_of_box Hi.out 9
    go_upto_region 8 with fail
    clear y4 yf4 y8 yf8 y9 yf9
    obtain ⟨w10, hw10⟩ : ∃ w10, ((w9.setCell ⟨i, 4, none⟩ (.slice none 0 0)).setCell ⟨i, 8, none⟩ (.int .i64 2)).setCell ⟨i, 9, none⟩ (.int .i64 1) = w10 := ⟨_, rfl⟩
    rw [hw10]
    have hbt : But (fun k => k = i) w9 w10 := by rw [← hw10]; exact (((But.refl (fun k => k = i) w9).set (a := ⟨i, 4, none⟩) rfl _).set (a := ⟨i, 8, none⟩) rfl _).set (a := ⟨i, 9, none⟩) rfl _
    have hi8 : Bx w10 i #[.int .i64 2, .int .i64 3, .int .i64 5, .slice ad 2 2, .slice none 0 0, .slice none 0 0, .bool false, .slice none 0 0, .int .i64 2, .int .i64 1, .int .i64 0] 27 := by rw [← hw10]; exact bx_set (bx_set (bx_set Hi.out 4 _) 8 _) 9 _
    replace Hg := Lib.hid (hbt.blk Hg.out hne3)
    replace Hh := Lib.hid (hbt.blk Hh.out hne2)
    replace Hi := Lib.hid hi8
    replace He := Lib.hid (hbt.blk He.out (by omega))
    replace HC := Lib.hid (HC.out.trans (hbt.below (B := w6.heap.size) HC.out.size (fun k e => by subst e; exact hge3)))
    clear hw10 hbt hi8
    go_wp2_with fail
    refine (parse_bad (rd_lit w10 #[.int .u8 14] 5 1 (by decide))).mono ?_
    rintro e w11 ⟨rfl, hb11⟩
    have hb := below_alloc_then hb11
    clear hb11
    replace HC := Lib.hid (below_call HC.out (Nat.le_refl _) hb)
    replace Hg := Lib.hid (bx_later hb Hg.out)
    replace Hh := Lib.hid (bx_later hb Hh.out)
    replace Hi := Lib.hid (bx_later hb Hi.out)
    replace He := Lib.hid (bx_later hb He.out)
    clear hb
    go_upto_region 9 with fail
    obtain ⟨w12, hw12⟩ : ∃ w12, w11.alloc (.cells #[.int .i64 0, .int .i64 0, .int .i64 0, .slice none 0 0, .slice none 0 0, .slice none 0 0, .bool false, .slice none 0 0, .int .i64 0, .int .i64 0, .int .i64 0] 27) = w12 := ⟨_, rfl⟩
    rw [hw12]
    have hb : Below w11.heap.size w11 w12 := by rw [← hw12]; exact below_alloc _ _
    replace HC := Lib.hid (below_call HC.out (Nat.le_refl _) hb)
    replace Hg := Lib.hid (bx_later hb Hg.out)
    replace Hh := Lib.hid (bx_later hb Hh.out)
    replace Hi := Lib.hid (bx_later hb Hi.out)
    replace He := Lib.hid (bx_later hb He.out)
    clear hb hw12
    go_wp2_with fail
    refine (bytes_first _).mono ?_
    rintro e w13 ⟨vf, rfl, hof, hb⟩
    replace HC := Lib.hid (below_call HC.out (Nat.le_refl _) hb)
    replace Hg := Lib.hid (bx_later hb Hg.out)
    replace Hh := Lib.hid (bx_later hb Hh.out)
    replace Hi := Lib.hid (bx_later hb Hi.out)
    replace He := Lib.hid (bx_later hb He.out)
    have HVF := Lib.hid (Rd.of_own hof)
    clear hb hof
    have s0 := cell_of_box (bx_later HC.out Hs.out) 0 rfl
    have t0 := cell_of_box (bx_later HC.out Ht.out) 0 rfl
    have t1 := cell_of_box (bx_later HC.out Ht.out) 1 rfl
    have t2 := cell_of_box (bx_later HC.out Ht.out) 2 rfl
    have t3 := cell_of_box (bx_later HC.out Ht.out) 3 rfl
    have t4 := cell_of_box (bx_later HC.out Ht.out) 4 rfl
    have t5 := cell_of_box (bx_later HC.out Ht.out) 5 rfl
    have t6 := cell_of_box (bx_later HC.out Ht.out) 6 rfl
    have t7 := cell_of_box (bx_later HC.out Ht.out) 7 rfl
    have t8 := cell_of_box (bx_later HC.out Ht.out) 8 rfl
    have t9 := cell_of_box (bx_later HC.out Ht.out) 9 rfl
    have t10 := cell_of_box (bx_later HC.out Ht.out) 10 rfl
    go_wp2_with fail
    refine (right_ok (HD.out.later HC.out) (HTAB.out.later HC.out) (HCOL.out.later HC.out) (HRW.out.later HC.out) (HO.out.later HC.out)).mono ?_
    rintro e wn ⟨rfl, hb⟩
    replace HC := Lib.hid (below_call HC.out (Nat.le_refl _) hb)
    replace Hg := Lib.hid (bx_later hb Hg.out)
    replace Hh := Lib.hid (bx_later hb Hh.out)
    replace Hi := Lib.hid (bx_later hb Hi.out)
    replace He := Lib.hid (bx_later hb He.out)
    replace HVF := Lib.hid (HVF.out.later hb)
    clear s0 t0 t1 t2 t3 t4 t5 t6 t7 t8 t9 t10
    clear hb
    have s0 := cell_of_box (bx_later HC.out Hs.out) 0 rfl
    have a0 := cell_of_box Hg.out 0 rfl
    have a1 := cell_of_box Hg.out 1 rfl
    have a2 := cell_of_box Hg.out 2 rfl
    have a3 := cell_of_box Hg.out 3 rfl
    have a4 := cell_of_box Hg.out 4 rfl
    have a5 := cell_of_box Hg.out 5 rfl
    have a6 := cell_of_box Hg.out 6 rfl
    have a7 := cell_of_box Hg.out 7 rfl
    have a8 := cell_of_box Hg.out 8 rfl
    have a9 := cell_of_box Hg.out 9 rfl
    have a10 := cell_of_box Hg.out 10 rfl
    go_wp2_with fail
    refine (right_gap (rd_of_bx He.out 2 (by decide))).mono ?_
    rintro e wn ⟨rfl, hb⟩
    replace HC := Lib.hid (below_call HC.out (Nat.le_refl _) hb)
    replace Hg := Lib.hid (bx_later hb Hg.out)
    replace Hh := Lib.hid (bx_later hb Hh.out)
    replace Hi := Lib.hid (bx_later hb Hi.out)
    replace He := Lib.hid (bx_later hb He.out)
    replace HVF := Lib.hid (HVF.out.later hb)
    clear s0 a0 a1 a2 a3 a4 a5 a6 a7 a8 a9 a10
    clear hb
    have s0 := cell_of_box (bx_later HC.out Hs.out) 0 rfl
    have b0 := cell_of_box Hh.out 0 rfl
    have b1 := cell_of_box Hh.out 1 rfl
    have b2 := cell_of_box Hh.out 2 rfl
    have b3 := cell_of_box Hh.out 3 rfl
    have b4 := cell_of_box Hh.out 4 rfl
    have b5 := cell_of_box Hh.out 5 rfl
    have b6 := cell_of_box Hh.out 6 rfl
    have b7 := cell_of_box Hh.out 7 rfl
    have b8 := cell_of_box Hh.out 8 rfl
    have b9 := cell_of_box Hh.out 9 rfl
    have b10 := cell_of_box Hh.out 10 rfl
    go_wp2_with fail
    refine (right_hand (HD.out.later HC.out)).mono ?_
    rintro e wn ⟨rfl, hb⟩
    replace HC := Lib.hid (below_call HC.out (Nat.le_refl _) hb)
    replace Hg := Lib.hid (bx_later hb Hg.out)
    replace Hh := Lib.hid (bx_later hb Hh.out)
    replace Hi := Lib.hid (bx_later hb Hi.out)
    replace He := Lib.hid (bx_later hb He.out)
    replace HVF := Lib.hid (HVF.out.later hb)
    clear s0 b0 b1 b2 b3 b4 b5 b6 b7 b8 b9 b10
    clear hb
    have s0 := cell_of_box (bx_later HC.out Hs.out) 0 rfl
    have c0 := cell_of_box Hi.out 0 rfl
    have c1 := cell_of_box Hi.out 1 rfl
    have c2 := cell_of_box Hi.out 2 rfl
    have c3 := cell_of_box Hi.out 3 rfl
    have c4 := cell_of_box Hi.out 4 rfl
    have c5 := cell_of_box Hi.out 5 rfl
    have c6 := cell_of_box Hi.out 6 rfl
    have c7 := cell_of_box Hi.out 7 rfl
    have c8 := cell_of_box Hi.out 8 rfl
    have c9 := cell_of_box Hi.out 9 rfl
    have c10 := cell_of_box Hi.out 10 rfl
    go_wp2_with fail
    refine (right_note (HD.out.later HC.out)).mono ?_
    rintro e wn ⟨rfl, hb⟩
    replace HC := Lib.hid (below_call HC.out (Nat.le_refl _) hb)
    replace Hg := Lib.hid (bx_later hb Hg.out)
    replace Hh := Lib.hid (bx_later hb Hh.out)
    replace Hi := Lib.hid (bx_later hb Hi.out)
    replace He := Lib.hid (bx_later hb He.out)
    replace HVF := Lib.hid (HVF.out.later hb)
    clear s0 c0 c1 c2 c3 c4 c5 c6 c7 c8 c9 c10
    clear hb
    have x0 := cell_of_box (bx_later HC.out Hx.out) 0 rfl
    have x1 := cell_of_box (bx_later HC.out Hx.out) 1 rfl
    have x2 := cell_of_box (bx_later HC.out Hx.out) 2 rfl
    have x3 := cell_of_box (bx_later HC.out Hx.out) 3 rfl
    have x4 := cell_of_box (bx_later HC.out Hx.out) 4 rfl
    have x5 := cell_of_box (bx_later HC.out Hx.out) 5 rfl
    have x6 := cell_of_box (bx_later HC.out Hx.out) 6 rfl
    have x7 := cell_of_box (bx_later HC.out Hx.out) 7 rfl
    have x8 := cell_of_box (bx_later HC.out Hx.out) 8 rfl
    have x9 := cell_of_box (bx_later HC.out Hx.out) 9 rfl
    have x10 := cell_of_box (bx_later HC.out Hx.out) 10 rfl
    have t0 := cell_of_box (bx_later HC.out Ht.out) 0 rfl
    have t1 := cell_of_box (bx_later HC.out Ht.out) 1 rfl
    have t2 := cell_of_box (bx_later HC.out Ht.out) 2 rfl
    have t3 := cell_of_box (bx_later HC.out Ht.out) 3 rfl
    have t4 := cell_of_box (bx_later HC.out Ht.out) 4 rfl
    have t5 := cell_of_box (bx_later HC.out Ht.out) 5 rfl
    have t6 := cell_of_box (bx_later HC.out Ht.out) 6 rfl
    have t7 := cell_of_box (bx_later HC.out Ht.out) 7 rfl
    have t8 := cell_of_box (bx_later HC.out Ht.out) 8 rfl
    have t9 := cell_of_box (bx_later HC.out Ht.out) 9 rfl
    have t10 := cell_of_box (bx_later HC.out Ht.out) 10 rfl
    go_wp2_with fail
    refine (sameTx_any true false [1, 2] ms [] [] false [1, 2] [op1 ar 1] [] [] _ rfl rfl (HBD.out.later HC.out) (HBO.out.later HC.out) (HBE.out.later HC.out) (HBH.out.later HC.out) (by decide) rfl rfl (HD.out.later HC.out) ⟨(HO.out.later HC.out), fun a ha => by rw [List.mem_singleton.1 ha]; exact (HRW.out.later HC.out)⟩ (ord_nil0 _) (rd_nil0 _) (by decide) ⟨fun _ => ⟨rfl, rfl, rfl, rfl, rfl, rfl, rfl, rfl, fun _ => rfl, HMS.out, rfl⟩, fun _ => rfl⟩).mono ?_
    rintro e wn ⟨rfl, hb⟩
    replace HC := Lib.hid (below_call HC.out (Nat.le_refl _) hb)
    replace Hg := Lib.hid (bx_later hb Hg.out)
    replace Hh := Lib.hid (bx_later hb Hh.out)
    replace Hi := Lib.hid (bx_later hb Hi.out)
    replace He := Lib.hid (bx_later hb He.out)
    replace HVF := Lib.hid (HVF.out.later hb)
    clear x0 x1 x2 x3 x4 x5 x6 x7 x8 x9 x10 t0 t1 t2 t3 t4 t5 t6 t7 t8 t9 t10
    clear hb
    go_wp2_with fail
    refine (same_true (lb := [14, 2, 2, 10, 0, 0, 0, 0, 0, 0, 0, 0]) (HVF.out.later (below_alloc _ _)) rfl (rd_lit _ #[.int .u8 14, .int .u8 2, .int .u8 2, .int .u8 10, .int .u8 0, .int .u8 0, .int .u8 0, .int .u8 0, .int .u8 0, .int .u8 0, .int .u8 0, .int .u8 0] 5 12 (by decide)) rfl rfl).mono ?_
    rintro e wn ⟨rfl, hb0⟩
    have hb := below_alloc_then hb0
    replace HC := Lib.hid (below_call HC.out (Nat.le_refl _) hb)
    replace Hg := Lib.hid (bx_later hb Hg.out)
    replace Hh := Lib.hid (bx_later hb Hh.out)
    replace Hi := Lib.hid (bx_later hb Hi.out)
    replace He := Lib.hid (bx_later hb He.out)
    clear hb hb0 HVF
    have t0 := cell_of_box (bx_later HC.out Ht.out) 0 rfl
    have t1 := cell_of_box (bx_later HC.out Ht.out) 1 rfl
    have t2 := cell_of_box (bx_later HC.out Ht.out) 2 rfl
    have t3 := cell_of_box (bx_later HC.out Ht.out) 3 rfl
    have t4 := cell_of_box (bx_later HC.out Ht.out) 4 rfl
    have t5 := cell_of_box (bx_later HC.out Ht.out) 5 rfl
    have t6 := cell_of_box (bx_later HC.out Ht.out) 6 rfl
    have t7 := cell_of_box (bx_later HC.out Ht.out) 7 rfl
    have t8 := cell_of_box (bx_later HC.out Ht.out) 8 rfl
    have t9 := cell_of_box (bx_later HC.out Ht.out) 9 rfl
    have t10 := cell_of_box (bx_later HC.out Ht.out) 10 rfl
    go_wp2_with fail
    refine (dot_any _).mono ?_
    rintro e wn ⟨rfl, hb⟩
    replace HC := Lib.hid (below_call HC.out (Nat.le_refl _) hb)
    replace Hg := Lib.hid (bx_later hb Hg.out)
    replace Hh := Lib.hid (bx_later hb Hh.out)
    replace Hi := Lib.hid (bx_later hb Hi.out)
    replace He := Lib.hid (bx_later hb He.out)
    clear t0 t1 t2 t3 t4 t5 t6 t7 t8 t9 t10
    clear hb
    have t0 := cell_of_box (bx_later HC.out Ht.out) 0 rfl
    have t1 := cell_of_box (bx_later HC.out Ht.out) 1 rfl
    have t2 := cell_of_box (bx_later HC.out Ht.out) 2 rfl
    have t3 := cell_of_box (bx_later HC.out Ht.out) 3 rfl
    have t4 := cell_of_box (bx_later HC.out Ht.out) 4 rfl
    have t5 := cell_of_box (bx_later HC.out Ht.out) 5 rfl
    have t6 := cell_of_box (bx_later HC.out Ht.out) 6 rfl
    have t7 := cell_of_box (bx_later HC.out Ht.out) 7 rfl
    have t8 := cell_of_box (bx_later HC.out Ht.out) 8 rfl
    have t9 := cell_of_box (bx_later HC.out Ht.out) 9 rfl
    have t10 := cell_of_box (bx_later HC.out Ht.out) 10 rfl
    go_wp2_with fail
    refine (stamp_any _).mono ?_
    rintro e wn ⟨rfl, hb⟩
    replace HC := Lib.hid (below_call HC.out (Nat.le_refl _) hb)
    replace Hg := Lib.hid (bx_later hb Hg.out)
    replace Hh := Lib.hid (bx_later hb Hh.out)
    replace Hi := Lib.hid (bx_later hb Hi.out)
    replace He := Lib.hid (bx_later hb He.out)
    clear t0 t1 t2 t3 t4 t5 t6 t7 t8 t9 t10
    clear hb
    have t0 := cell_of_box (bx_later HC.out Ht.out) 0 rfl
    have t1 := cell_of_box (bx_later HC.out Ht.out) 1 rfl
    have t2 := cell_of_box (bx_later HC.out Ht.out) 2 rfl
    have t3 := cell_of_box (bx_later HC.out Ht.out) 3 rfl
    have t4 := cell_of_box (bx_later HC.out Ht.out) 4 rfl
    have t5 := cell_of_box (bx_later HC.out Ht.out) 5 rfl
    have t6 := cell_of_box (bx_later HC.out Ht.out) 6 rfl
    have t7 := cell_of_box (bx_later HC.out Ht.out) 7 rfl
    have t8 := cell_of_box (bx_later HC.out Ht.out) 8 rfl
    have t9 := cell_of_box (bx_later HC.out Ht.out) 9 rfl
    have t10 := cell_of_box (bx_later HC.out Ht.out) 10 rfl
    go_wp2_with fail
    refine (knew_plain 1 1 true (by decide +kernel) (HD.out.later HC.out)).mono ?_
    rintro e wn ⟨rfl, hb⟩
    replace HC := Lib.hid (below_call HC.out (Nat.le_refl _) hb)
    replace Hg := Lib.hid (bx_later hb Hg.out)
    replace Hh := Lib.hid (bx_later hb Hh.out)
    replace Hi := Lib.hid (bx_later hb Hi.out)
    replace He := Lib.hid (bx_later hb He.out)
    clear t0 t1 t2 t3 t4 t5 t6 t7 t8 t9 t10
    clear hb
    have t0 := cell_of_box (bx_later HC.out Ht.out) 0 rfl
    have t1 := cell_of_box (bx_later HC.out Ht.out) 1 rfl
    have t2 := cell_of_box (bx_later HC.out Ht.out) 2 rfl
    have t3 := cell_of_box (bx_later HC.out Ht.out) 3 rfl
    have t4 := cell_of_box (bx_later HC.out Ht.out) 4 rfl
    have t5 := cell_of_box (bx_later HC.out Ht.out) 5 rfl
    have t6 := cell_of_box (bx_later HC.out Ht.out) 6 rfl
    have t7 := cell_of_box (bx_later HC.out Ht.out) 7 rfl
    have t8 := cell_of_box (bx_later HC.out Ht.out) 8 rfl
    have t9 := cell_of_box (bx_later HC.out Ht.out) 9 rfl
    have t10 := cell_of_box (bx_later HC.out Ht.out) 10 rfl
    go_wp2_with fail
    refine (knew_plain 2 3 true (by decide +kernel) (HD.out.later HC.out)).mono ?_
    rintro e wn ⟨rfl, hb⟩
    replace HC := Lib.hid (below_call HC.out (Nat.le_refl _) hb)
    replace Hg := Lib.hid (bx_later hb Hg.out)
    replace Hh := Lib.hid (bx_later hb Hh.out)
    replace Hi := Lib.hid (bx_later hb Hi.out)
    replace He := Lib.hid (bx_later hb He.out)
    clear t0 t1 t2 t3 t4 t5 t6 t7 t8 t9 t10
    clear hb
    have t0 := cell_of_box (bx_later HC.out Ht.out) 0 rfl
    have t1 := cell_of_box (bx_later HC.out Ht.out) 1 rfl
    have t2 := cell_of_box (bx_later HC.out Ht.out) 2 rfl
    have t3 := cell_of_box (bx_later HC.out Ht.out) 3 rfl
    have t4 := cell_of_box (bx_later HC.out Ht.out) 4 rfl
    have t5 := cell_of_box (bx_later HC.out Ht.out) 5 rfl
    have t6 := cell_of_box (bx_later HC.out Ht.out) 6 rfl
    have t7 := cell_of_box (bx_later HC.out Ht.out) 7 rfl
    have t8 := cell_of_box (bx_later HC.out Ht.out) 8 rfl
    have t9 := cell_of_box (bx_later HC.out Ht.out) 9 rfl
    have t10 := cell_of_box (bx_later HC.out Ht.out) 10 rfl
    go_wp2_with fail
    refine (knew_plain 1 2 false (by decide +kernel) (HD.out.later HC.out)).mono ?_
    rintro e wn ⟨rfl, hb⟩
    replace HC := Lib.hid (below_call HC.out (Nat.le_refl _) hb)
    replace Hg := Lib.hid (bx_later hb Hg.out)
    replace Hh := Lib.hid (bx_later hb Hh.out)
    replace Hi := Lib.hid (bx_later hb Hi.out)
    replace He := Lib.hid (bx_later hb He.out)
    clear t0 t1 t2 t3 t4 t5 t6 t7 t8 t9 t10
    clear hb
    go_wp2_with fail
    go_ret
    exact ⟨rfl, below_then HB.out HC.out⟩
end Go.Proofs.Ytliokkoalkhpaaa
