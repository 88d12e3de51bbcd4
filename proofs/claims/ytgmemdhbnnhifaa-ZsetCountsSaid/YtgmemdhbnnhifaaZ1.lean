/-
  Layer 24 (zset): contracts as the laws use them; the chapter's example. (printed by tools/gen_l24.py)
-/
import Derived.Test.YtgmemdhbnnhifaaZL
namespace Go.Proofs.Ytgmemdhbnnhifaa
open Go.RowKit Go.Sort Go.BigFrame
theorem of_p {va : Value} {l : List It} {w : World} (ha : IRd w va l) (hn : l.length ≤ 1000000) (hf : ∀ x ∈ l, w64 x.many = x.many) :
    Calls Try.prog 16 #[va] w (OfP w (l)) :=
  (of_any _ _ _ ha hn hf).mono fun _ _ h => OfPost.p h (ha.2)
theorem refOf_p {va : Value} {l : List It} {w : World} (ha : IRd w va l) (hn : l.length ≤ 1000000) (hf : ∀ x ∈ l, w64 x.many = x.many) :
    Calls Try.prog 17 #[va] w (OfP w (l)) :=
  (refOf_any _ _ _ ha hn hf).mono fun _ _ h => OfPost.p h (ha.2)
theorem add_p {va vb : Value} {a b : List It} {w : World} (ha : IRd w va a) (hb : IRd w vb b) (hn : a.length + b.length ≤ 1000000) (hf : ∀ x ∈ a, w64 x.many = x.many) (hg : ∀ x ∈ b, w64 x.many = x.many) :
    Calls Try.prog 18 #[va, vb] w (OfP w (a ++ b)) :=
  (add_any _ _ _ _ _ ha hb hn hf hg).mono fun _ _ h => OfPost.p h (fun y hy => (List.mem_append.1 hy).elim (ha.2 y) (hb.2 y))
theorem refAdd_p {va vb : Value} {a b : List It} {w : World} (ha : IRd w va a) (hb : IRd w vb b) (hn : a.length + b.length ≤ 1000000) (hf : ∀ x ∈ a, w64 x.many = x.many) (hg : ∀ x ∈ b, w64 x.many = x.many) :
    Calls Try.prog 19 #[va, vb] w (OfP w (a ++ b)) :=
  (refAdd_any _ _ _ _ _ ha hb hn hf hg).mono fun _ _ h => OfPost.p h (fun y hy => (List.mem_append.1 hy).elim (ha.2 y) (hb.2 y))
theorem scale_p {va : Value} {l : List It} {w : World} (q : Int) (ha : IRd w va l) (hn : l.length ≤ 1000000) :
    Calls Try.prog 20 #[va, .int .i64 q] w (OfP w (l.map (scaleI q))) :=
  (scale_any _ _ q _ ha hn).mono fun _ _ h => OfPost.p h (fun y hy => by obtain ⟨z, hz, rfl⟩ := List.mem_map.1 hy; exact (ha.2 z hz : Vit w (scaleI _ z)))
theorem refScale_p {va : Value} {l : List It} {w : World} (q : Int) (ha : IRd w va l) (hn : l.length ≤ 1000000) :
    Calls Try.prog 21 #[va, .int .i64 q] w (OfP w (l.map (scaleI q))) :=
  (refScale_any _ _ q _ ha hn).mono fun _ _ h => OfPost.p h (fun y hy => by obtain ⟨z, hz, rfl⟩ := List.mem_map.1 hy; exact (ha.2 z hz : Vit w (scaleI _ z)))
theorem neg_p {va : Value} {l : List It} {w : World} (ha : IRd w va l) (hn : l.length ≤ 1000000) :
    Calls Try.prog 22 #[va] w (OfP w (l.map (scaleI (-1)))) :=
  (neg_any _ _ _ ha hn).mono fun _ _ h => OfPost.p h (fun y hy => by obtain ⟨z, hz, rfl⟩ := List.mem_map.1 hy; exact (ha.2 z hz : Vit w (scaleI _ z)))
theorem refNeg_p {va : Value} {l : List It} {w : World} (ha : IRd w va l) (hn : l.length ≤ 1000000) :
    Calls Try.prog 23 #[va] w (OfP w (l.map (scaleI (-1)))) :=
  (refNeg_any _ _ _ ha hn).mono fun _ _ h => OfPost.p h (fun y hy => by obtain ⟨z, hz, rfl⟩ := List.mem_map.1 hy; exact (ha.2 z hz : Vit w (scaleI _ z)))
def SetP (w : World) (l : List It) (e : Ending) (w' : World) : Prop :=
  ∃ ao c C, e = .returned (.slice ao (setI C).length c) ∧ IRd w' (.slice ao (setI C).length c) (setI C) ∧ Of1 l C ∧ Below w.heap.size w w'
theorem set_p {va : Value} {l : List It} {w : World} (ha : IRd w va l) (hn : l.length ≤ 1000000) (hf : ∀ x ∈ l, w64 x.many = x.many) :
    Calls Try.prog 24 #[va] w (SetP w l) := (set_any _ _ _ ha hn hf).mono fun _ _ h => by
  obtain ⟨v, C, he, ho, hc, hb⟩ := h
  obtain ⟨ao, c, rfl, _⟩ := Rd.of_own ho
  refine ⟨ao, c, C, he, OwnI.ird ho (fun x hx => ?_), hc, hb⟩
  unfold setI at hx
  obtain ⟨y, hy, rfl⟩ := List.mem_map.1 hx
  exact (hc.vit (fun y hy => (ha.2 y hy).later hb) y (List.mem_filter.1 hy).1 : Vit _ y)
def RefSetP (w : World) (l : List It) (e : Ending) (w' : World) : Prop :=
  ∃ ao c C, e = .returned (.slice ao (setF C).length c) ∧ IRd w' (.slice ao (setF C).length c) (setF C) ∧ Of1 l C ∧ Below w.heap.size w w'
theorem refSet_p {va : Value} {l : List It} {w : World} (ha : IRd w va l) (hn : l.length ≤ 1000000) (hf : ∀ x ∈ l, w64 x.many = x.many) :
    Calls Try.prog 25 #[va] w (RefSetP w l) := (refSet_any _ _ _ ha hn hf).mono fun _ _ h => by
  obtain ⟨v, C, he, ho, hc, hb⟩ := h
  obtain ⟨ao, c, rfl, _⟩ := Rd.of_own ho
  refine ⟨ao, c, C, he, OwnI.ird ho (fun x hx => ?_), hc, hb⟩
  unfold setF at hx
  obtain ⟨y, hy, rfl⟩ := List.mem_map.1 hx
  exact (hc.vit (fun y hy => (ha.2 y hy).later hb) y (List.mem_filter.1 hy).1 : Vit _ y)

theorem awake_D : Nrm [(numR 2, 1)] := ⟨List.pairwise_singleton _ _, fun x hx => by rw [List.mem_singleton.1 hx]; decide, fun x hx => by rw [List.mem_singleton.1 hx]; decide⟩
theorem awake_E : Nrm [(numR 2, -1)] := ⟨List.pairwise_singleton _ _, fun x hx => by rw [List.mem_singleton.1 hx]; decide, fun x hx => by rw [List.mem_singleton.1 hx]; decide⟩
theorem len_of_p {C : List It} {d : Pr} (h : C.map It.p = [d]) : C.length = 1 := by
  have := congrArg List.length h
  simpa using this
theorem awake_nrm {C l : List It} (h : Nrm (C.map It.p)) (hc : ∀ r, cnt (C.map It.p) r = cnt (l.map It.p) r) (hl : l.map It.p = [(numR 1, 2), (numR 2, 1), (numR 1, -2)] := by rfl) : C.map It.p = [(numR 2, 1)] ∧ C.length = 1 := by
  have h1 := nrm_unique h awake_D fun r => by
    rw [hc r, hl]
    unfold cnt
    simp only [tot]
    congr 1
    by_cases h1 : numR 1 = r
    · have h2 : ¬ numR 2 = r := by rintro rfl; exact absurd h1 (by decide)
      simp [h1, h2]
    · simp [h1]
  exact ⟨h1, len_of_p h1⟩
theorem awake_neg {C D : List It} (h : C.map It.p = [(numR 2, 1)]) (hd : Of1 (C.map (scaleI (-1))) D) : D.map It.p = [(numR 2, -1)] ∧ D.length = 1 := by
  have h1 := nrm_unique hd.nrm awake_E fun r => by
    rw [hd.cnt r, scl_map, h]; rfl
  exact ⟨h1, len_of_p h1⟩
theorem awake_set {C D : List It} (h : C.map It.p = [(numR 2, -1)]) (hd : Of1 C D) : (setI D).length = 0 := by
  have h1 := nrm_unique hd.nrm awake_E fun r => by rw [hd.cnt r, h]
  have h2 := setI_p hd.nrm
  rw [h1] at h2
  have h3 := congrArg List.length h2
  simpa using h3

set_option maxRecDepth 100000 in
set_option maxHeartbeats 4000000 in
theorem awake_any (w : World) : Calls Try.prog 9 #[] w fun e w' => e = .returned (.bool true) ∧ Below w.heap.size w w' := by
  have HB := Lib.hid (Below.refl w.heap.size w)
  go_enter Try.func9, Try.ntmps9
  go_wp2_with fail
  refine (num_any 1 _).mono ?_
  rintro e w1 ⟨p1, rfl, hr, hb⟩
  replace HB := Lib.hid (below_then HB.out (by first | exact hb | exact below_alloc_then hb))
  have R1 := Lib.hid hr
  clear hb hr
  go_wp2_with fail
  refine (num_any 2 _).mono ?_
  rintro e w2 ⟨p2, rfl, hr, hb⟩
  replace HB := Lib.hid (below_then HB.out (by first | exact hb | exact below_alloc_then hb))
  replace R1 := Lib.hid (R1.out.later (by first | exact hb | exact below_alloc_then hb))
  have R2 := Lib.hid hr
  clear hb hr
  go_wp2_with fail
  refine (num_any 1 _).mono ?_
  rintro e w3 ⟨p3, rfl, hr, hb⟩
  replace HB := Lib.hid (below_then HB.out (by first | exact hb | exact below_alloc_then hb))
  replace R1 := Lib.hid (R1.out.later (by first | exact hb | exact below_alloc_then hb))
  replace R2 := Lib.hid (R2.out.later (by first | exact hb | exact below_alloc_then hb))
  have R3 := Lib.hid hr
  clear hb hr
  have hi : ∀ W, Below w3.heap.size w3 W → ∀ x ∈ ([⟨some p1, 1, 1, 2, none, 0, 0, numR 1⟩, ⟨some p2, 1, 1, 1, none, 0, 0, numR 2⟩, ⟨some p3, 1, 1, -2, none, 0, 0, numR 1⟩] : List It), Vit W x := by
    intro W hW x hx
    simp only [List.mem_cons, List.not_mem_nil, or_false] at hx
    rcases hx with rfl | rfl | rfl
    · exact R1.out.later hW
    · exact R2.out.later hW
    · exact R3.out.later hW
  have HI := Lib.hid hi
  clear hi
  go_wp2_with fail
  refine (of_p (l := [⟨some p1, 1, 1, 2, none, 0, 0, numR 1⟩, ⟨some p2, 1, 1, 1, none, 0, 0, numR 2⟩, ⟨some p3, 1, 1, -2, none, 0, 0, numR 1⟩]) ⟨rd_lit w3 _ _ 3 (by decide), HI.out _ (below_alloc _ _)⟩ (by simp) (by intro x hx; simp only [List.mem_cons, List.not_mem_nil, or_false] at hx; rcases hx with rfl | rfl | rfl; all_goals (first | exact (by decide : w64 2 = 2) | exact (by decide : w64 1 = 1) | exact (by decide : w64 (-2) = -2)))).mono ?_
  rintro e w4 ⟨ao4, cc4, C4, rfl, i4, o4, hb⟩
  replace HB := Lib.hid (below_then HB.out (by first | exact hb | exact below_alloc_then hb))
  have I_x := Lib.hid i4
  have O_x := Lib.hid o4
  clear hb i4 o4
  obtain ⟨hx1, hx2⟩ := awake_nrm O_x.out.nrm O_x.out.cnt
  have HX1 := Lib.hid hx1
  have HX2 := Lib.hid hx2
  clear hx1 hx2
  go_wp2_with fail
  refine (num_any 2 _).mono ?_
  rintro e w5 ⟨p5, rfl, hr, hb⟩
  replace HB := Lib.hid (below_then HB.out (by first | exact hb | exact below_alloc_then hb))
  replace I_x := Lib.hid (I_x.out.later (by first | exact hb | exact below_alloc_then hb))
  have R5 := Lib.hid hr
  clear hb hr
  have I_u : ∀ W, Below w5.heap.size w5 W → IRd (W.alloc (.cells #[.slice (some p5) 1 1, .int .i64 (1), .slice none 0 0] 39)) (.slice (some ⟨W.heap.size, 0, none⟩) 1 1) [⟨some p5, 1, 1, 1, none, 0, 0, numR 2⟩] := fun W hW => ⟨rd_lit W _ _ 1 (by decide), fun x hx => by
    rw [List.mem_singleton] at hx; subst hx
    exact R5.out.later (below_then hW (below_alloc _ _))⟩
  have H_u := Lib.hid I_u
  clear I_u
  go_wp2_with fail
  refine (refSameI_any _ _ C4 [⟨some p5, 1, 1, 1, none, 0, 0, numR 2⟩] _ (I_x.out.later (below_alloc _ _)) (H_u.out _ (Below.refl _ _)) (by rw [HX2.out]; decide)).mono ?_
  rintro e w6 ⟨rfl, hb⟩
  replace HB := Lib.hid (below_then HB.out (by first | exact hb | exact below_alloc_then hb))
  replace I_x := Lib.hid (I_x.out.later (by first | exact hb | exact below_alloc_then hb))
  clear hb
  rw [show sameI C4 [⟨some p5, 1, 1, 1, none, 0, 0, numR 2⟩] = true from decide_eq_true HX1.out]
  go_wp2_with fail
  refine (rightI_any _ (C4) _ I_x.out (by have := Nat.le_refl 0; have := O_x.out.few; (try simp only [List.length_append, List.length_map, List.length_cons, List.length_nil] at *); omega)).mono ?_
  rintro e w7 ⟨b7, rfl, hr7, hb⟩
  replace HB := Lib.hid (below_then HB.out (by first | exact hb | exact below_alloc_then hb))
  replace I_x := Lib.hid (I_x.out.later (by first | exact hb | exact below_alloc_then hb))
  clear hb
  obtain rfl : b7 = true := hr7.2 (nrm_right O_x.out.nrm O_x.out.nby)
  clear hr7
  have hl4 : C4.length ≤ 1000000 := by rw [HX2.out]; decide
  have HL4 := Lib.hid hl4
  clear hl4
  go_wp2_with fail
  refine (num_any 2 _).mono ?_
  rintro e w8 ⟨p8, rfl, hr, hb⟩
  replace HB := Lib.hid (below_then HB.out (by first | exact hb | exact below_alloc_then hb))
  replace I_x := Lib.hid (I_x.out.later (by first | exact hb | exact below_alloc_then hb))
  have R8 := Lib.hid hr
  clear hb hr
  go_wp2_with fail
  refine (many_any _ _ C4 (numR 2) _ I_x.out R8.out HL4.out).mono ?_
  rintro e w9 ⟨rfl, hb⟩
  replace HB := Lib.hid (below_then HB.out (by first | exact hb | exact below_alloc_then hb))
  replace I_x := Lib.hid (I_x.out.later (by first | exact hb | exact below_alloc_then hb))
  clear hb
  rw [show cnt (C4.map It.p) (numR 2) = 1 from by rw [HX1.out]; rfl]
  go_wp2_with fail
  refine (num_any 1 _).mono ?_
  rintro e w10 ⟨p10, rfl, hr, hb⟩
  replace HB := Lib.hid (below_then HB.out (by first | exact hb | exact below_alloc_then hb))
  replace I_x := Lib.hid (I_x.out.later (by first | exact hb | exact below_alloc_then hb))
  have R10 := Lib.hid hr
  clear hb hr
  go_wp2_with fail
  refine (many_any _ _ C4 (numR 1) _ I_x.out R10.out HL4.out).mono ?_
  rintro e w11 ⟨rfl, hb⟩
  replace HB := Lib.hid (below_then HB.out (by first | exact hb | exact below_alloc_then hb))
  replace I_x := Lib.hid (I_x.out.later (by first | exact hb | exact below_alloc_then hb))
  clear hb
  rw [show cnt (C4.map It.p) (numR 1) = 0 from by rw [HX1.out]; rfl]
  go_wp2_with fail
  refine (neg_p I_x.out HL4.out).mono ?_
  rintro e w12 ⟨ao12, cc12, C12, rfl, i12, o12, hb⟩
  replace HB := Lib.hid (below_then HB.out (by first | exact hb | exact below_alloc_then hb))
  replace I_x := Lib.hid (I_x.out.later (by first | exact hb | exact below_alloc_then hb))
  have I_y := Lib.hid i12
  have O_y := Lib.hid o12
  clear hb i12 o12
  have HY1 := Lib.hid (awake_neg HX1.out O_y.out)
  go_wp2_with fail
  refine (num_any 2 _).mono ?_
  rintro e w13 ⟨p13, rfl, hr, hb⟩
  replace HB := Lib.hid (below_then HB.out (by first | exact hb | exact below_alloc_then hb))
  replace I_x := Lib.hid (I_x.out.later (by first | exact hb | exact below_alloc_then hb))
  replace I_y := Lib.hid (I_y.out.later (by first | exact hb | exact below_alloc_then hb))
  have R13 := Lib.hid hr
  clear hb hr
  have I_z : ∀ W, Below w13.heap.size w13 W → IRd (W.alloc (.cells #[.slice (some p13) 1 1, .int .i64 (-1), .slice none 0 0] 39)) (.slice (some ⟨W.heap.size, 0, none⟩) 1 1) [⟨some p13, 1, 1, -1, none, 0, 0, numR 2⟩] := fun W hW => ⟨rd_lit W _ _ 1 (by decide), fun x hx => by
    rw [List.mem_singleton] at hx; subst hx
    exact R13.out.later (below_then hW (below_alloc _ _))⟩
  have H_z := Lib.hid I_z
  clear I_z
  go_wp2_with fail
  refine (refSameI_any _ _ C12 [⟨some p13, 1, 1, -1, none, 0, 0, numR 2⟩] _ (I_y.out.later (below_alloc _ _)) (H_z.out _ (Below.refl _ _)) (by rw [HY1.out.2]; decide)).mono ?_
  rintro e w14 ⟨rfl, hb⟩
  replace HB := Lib.hid (below_then HB.out (by first | exact hb | exact below_alloc_then hb))
  replace I_x := Lib.hid (I_x.out.later (by first | exact hb | exact below_alloc_then hb))
  replace I_y := Lib.hid (I_y.out.later (by first | exact hb | exact below_alloc_then hb))
  clear hb
  rw [show sameI C12 [⟨some p13, 1, 1, -1, none, 0, 0, numR 2⟩] = true from decide_eq_true HY1.out.1]
  go_wp2_with fail
  refine (neg_p I_x.out HL4.out).mono ?_
  rintro e w15 ⟨ao15, cc15, C15, rfl, i15, o15, hb⟩
  replace HB := Lib.hid (below_then HB.out (by first | exact hb | exact below_alloc_then hb))
  replace I_x := Lib.hid (I_x.out.later (by first | exact hb | exact below_alloc_then hb))
  replace I_y := Lib.hid (I_y.out.later (by first | exact hb | exact below_alloc_then hb))
  have I_v := Lib.hid i15
  have O_v := Lib.hid o15
  clear hb i15 o15
  have HV1 := Lib.hid (awake_neg HX1.out O_v.out)
  go_wp2_with fail
  refine (set_p I_v.out (by have := Nat.le_refl 0; have := O_x.out.few; have := O_y.out.few; have := O_v.out.few; (try simp only [List.length_append, List.length_map, List.length_cons, List.length_nil] at *); omega) O_v.out.fit).mono ?_
  rintro e w16 ⟨ao16, cc16, C16, rfl, i16, o16, hb⟩
  replace HB := Lib.hid (below_then HB.out (by first | exact hb | exact below_alloc_then hb))
  replace I_x := Lib.hid (I_x.out.later (by first | exact hb | exact below_alloc_then hb))
  replace I_y := Lib.hid (I_y.out.later (by first | exact hb | exact below_alloc_then hb))
  replace I_v := Lib.hid (I_v.out.later (by first | exact hb | exact below_alloc_then hb))
  have I_s := Lib.hid i16
  have O_s := Lib.hid o16
  clear hb i16 o16
  have HS0 := Lib.hid (awake_set HV1.out.1 O_s.out)
  rw [HS0.out]
  go_wp2_with fail
  go_ret
  exact ⟨rfl, HB.out⟩
end Go.Proofs.Ytgmemdhbnnhifaa
