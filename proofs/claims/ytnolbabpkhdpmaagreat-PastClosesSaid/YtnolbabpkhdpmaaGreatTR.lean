/-
  Layer 4 (clock): the document's order of stamps.
-/
import Derived.Test.YtnolbabpkhdpmaaGreatTS
namespace Go.Proofs.YtnolbabpkhdpmaaGreat
open Go.RowKit Go.Sort Go.BigFrame

theorem rd_box {w : World} {g : Nat} {v : Value} (h : w.cell? ⟨g, 0, none⟩ = some v) : Rd w (.slice (some ⟨g, 0, none⟩) 1 1) 1 [v] := by
  refine ⟨_, _, rfl, Nat.le_refl _, by decide, (fun h => nomatch h), fun a ha => ?_⟩
  cases ha
  intro j u hj
  rcases j with _ | j
  · cases hj; exact h
  · simp at hj

structure OrdR (w3 : World) (oa : Option Addr) (oc k jj : Nat) (o : List Int) (a1 a2 : Option Addr) (c1 c2 : Nat) (d : Nat → Bool) (g : Nat) (s3 s32 s33 s34 s35 s36 s37 s38 s39 s40 s41 s42 s43 : Value) (wx : World) : Prop where
  b : Below w3.heap.size w3 wx
  q3 : d 12 = false → s3 = .slice oa k oc
  o32 : d 0 = true → d 4 = false → wx.ownsRow w3.heap.size 3 1 s32 0 []
  n32 : d 0 = true → d 4 = false → d 6 = true → s32.ownBlock ≠ some g
  p33 : d 1 = true → s33 = .slice oa k oc
  p34 : d 2 = true → s34 = .int .i64 jj
  p35 : d 3 = true → s35 = .slice a1 jj c1
  o36 : d 4 = true → d 7 = false → wx.ownsRow w3.heap.size 3 1 s36 jj ((o.take jj).map ic)
  n36 : d 4 = true → d 7 = false → d 6 = true → s36.ownBlock ≠ some g
  p37 : d 5 = true → s37 = .int .i64 k
  p38 : d 6 = true → d 7 = false → s38 = .slice (some ⟨g, 0, none⟩) 1 1
  c38 : d 6 = true → d 7 = false → wx.cell? ⟨g, 0, none⟩ = some (ic k)
  o39 : d 7 = true → d 11 = false → wx.ownsRow w3.heap.size 3 1 s39 (jj + 1) (((o.take jj).map ic) ++ [ic k])
  p40 : d 8 = true → s40 = .slice oa k oc
  p41 : d 9 = true → s41 = .int .i64 jj
  p42 : d 10 = true → s42 = .slice a2 (k - jj) c2
  o43 : d 11 = true → wx.ownsRow w3.heap.size 3 1 s43 (jj + 1 + (k - jj)) (((o.take jj).map ic) ++ [ic k] ++ (o.drop jj).map ic)
  q12 : d 12 = true → s3 = s43

set_option maxRecDepth 100000 in
set_option maxHeartbeats 2000000 in
theorem refOrder_any (va : Value) (l : List Stp) (w : World) (h : Rd w va l.length (stCs l)) (hn : l.length ≤ 1000000) :
    Calls Tryz.prog 108 #[va] w (OrdPost w l.length (orderL l)) := by
  obtain ⟨ao, c, rfl, hnc, hcm, _, _⟩ := id h
  obtain ⟨n, hln⟩ : ∃ n, l.length = n := ⟨_, rfl⟩
  have HO := Lib.hid h
  have HLN := Lib.hid hln
  rw [hln] at hn hnc ⊢
  clear h hcm hln
  go_enter Tryz.func108, Tryz.ntmps108
  go_wp2
  go_loopw [3, 4] (fun vo vi wr => ∃ k : Nat, k ≤ n ∧ vi = .int .i64 k ∧ Hid (Rd wr vo k ((isortL (ltC (cmpAt l)) (upto k)).map ic)) ∧ Hid (Below w.heap.size w wr)) (fun _ vi _ => n - (intOf vi).toNat)
  case atStart => exact ⟨0, Nat.zero_le _, rfl, ⟨none, 0, rfl, Nat.le_refl _, Nat.zero_le _, fun _ => rfl, fun a ha => by cases ha⟩, Below.refl _ _⟩
  case round =>
    obtain ⟨k, hk, rfl, hrd, hbw⟩ := hrel
    rename World => wr
    obtain ⟨oa, oc, rfl, hokc, hocm, _, _⟩ := id hrd.out
    by_cases hlt : k < n
    · obtain ⟨o, ho⟩ : ∃ o, isortL (ltC (cmpAt l)) (upto k) = o := ⟨_, rfl⟩
      have hol : o.length = k := by rw [← ho, isortL_length, upto_length]
      have hmem : ∀ x ∈ o, 0 ≤ x ∧ x < (k : Int) := fun x hx => upto_mem (by rw [← ho] at hx; exact (isortL_perm _).mem_iff.1 hx)
      rw [ho] at hrd
      have HOE := Lib.hid ho
      have HOL := Lib.hid hol
      have HME := Lib.hid hmem
      clear ho hol hmem hokc hocm
      go_wp2_with fail
      go_loopw [5] (fun vj w2 => ∃ j : Nat, j ≤ k ∧ vj = .int .i64 j ∧ Hid (∀ y ∈ o.drop j, ltC (cmpAt l) (k : Int) y = true) ∧ Hid (Below wr.heap.size wr w2)) (fun vj _ => (intOf vj).toNat)
      case atStart => exact ⟨k, Nat.le_refl _, rfl, (by rw [List.drop_of_length_le (by rw [HOL.out]; exact Nat.le_refl _)]; intro y hy; cases hy), Below.refl _ _⟩
      case round =>
        obtain ⟨j, hj, rfl, hY, hb2⟩ := hrel
        rename World => w2
        by_cases hj0 : 0 < j
        · obtain ⟨j, rfl⟩ : ∃ j', j = j' + 1 := ⟨j - 1, by omega⟩
          have hjo : j < o.length := by have := HOL.out; omega
          have hkl : k < l.length := by have := HLN.out; omega
          obtain ⟨b1, o1, x1, c0, c1, c2, _⟩ := rd_st (HO.out.later (below_then hbw.out hb2.out)) rfl k hkl
          rw [HLN.out] at x1
          have hm := HME.out _ (List.getElem_mem hjo)
          obtain ⟨y, hy⟩ : ∃ y : Nat, o[j] = (y : Int) := ⟨o[j].toNat, by omega⟩
          have hyl : y < l.length := by have := HLN.out; omega
          obtain ⟨b2, o2, x2, d0, d1, d2, _⟩ := rd_st (HO.out.later (below_then hbw.out hb2.out)) rfl y hyl
          rw [HLN.out] at x2
          obtain ⟨A, x3, e0, _⟩ := rd_one elInts ic (hrd.out.later hb2.out) HOL.out.symm j hjo
          rw [hy] at e0
          have hcmp : ltC (cmpAt l) (k : Int) o[j] = lessS l[k] l[y] := by rw [hy, ltC_cmpAt]; simp [hkl, hyl]
          have q1 : (0 : Int) ≤ ((j + 1 : Nat) : Int) - 1 := by omega
          have q2 : ((j + 1 : Nat) : Int) - 1 = (j : Int) := by omega
          have q3 : (j : Int) < (k : Int) := by omega
          have q4 : (y : Int) < (n : Int) := by have := HLN.out; omega
          have q5 : (k : Int) < (n : Int) := by omega
          have cS : ∀ d os, Calls Tryz.prog 111 #[l[k].agg, l[y].agg] (grow (redrawn w2 d) os) fun e w'' => e = .returned (.bool (lessS l[k] l[y])) ∧ ∃ p : Regrown, w'' = grow (redrawn w2 p.d) p.os := fun d os => Calls.regrown_of (refLess_any l[k] l[y] _)
          have HCM := Lib.hid hcmp
          have HYO := Lib.hid hy
          clear hcmp hy hm
          cases hls : lessS l[k] l[y]
          · have HLS := Lib.hid hls
            rw [hls] at cS
            clear hls
            go_wp2_with fail
            have kc0 := cell_regrown c0
            have kc1 := cell_regrown c1
            have kc2 := cell_regrown c2
            have kd0 := cell_regrown d0
            have kd1 := cell_regrown d1
            have kd2 := cell_regrown d2
            have ke0 := cell_regrown e0
            refine wp_region_quiet_below (by kernel_rfl) (by kernel_rfl) ?_
            repeat (go_big_quiet_step (first | exact cS _ _))
            refine wpQuiet_nil ?_
            intro _ hw'
            obtain ⟨⟨dq, osq⟩, hw''⟩ := hw'
            subst hw''
            clear kc0 kc1 kc2 kd0 kd1 kd2 ke0 cS
            have hb3 := below_regrown w2 dq osq
            generalize grow (redrawn w2 dq) osq = w3 at *
            replace c0 := cell_later hb3 c0
            replace c1 := cell_later hb3 c1
            replace c2 := cell_later hb3 c2
            replace d0 := cell_later hb3 d0
            replace d1 := cell_later hb3 d1
            replace d2 := cell_later hb3 d2
            replace e0 := cell_later hb3 e0
            have hb4 := Lib.hid (below_then hb2.out hb3)
            have hfin : isortL (ltC (cmpAt l)) (upto (k + 1)) = o.take (j + 1) ++ (k : Int) :: o.drop (j + 1) := by
              rw [upto_succ]
              refine ins_end (swoAt l) (by rw [HOE.out, List.take_append_drop]) hY.out ?_
              intro z hz
              rw [List.getLast?_eq_getElem?, List.length_take, Nat.min_eq_left (by omega), Nat.add_sub_cancel, List.getElem?_take_of_lt (by omega), List.getElem?_eq_getElem hjo] at hz
              cases hz
              rw [HCM.out, HLS.out]
            have HFIN := Lib.hid hfin
            clear hfin hb3 c0 c1 c2 d0 d1 d2 e0
            have hj1 : j + 1 ≤ k := by omega
            generalize j + 1 = jj at *
            have hln : o.length = k := HOL.out
            have hr3 := hrd.out.later (below_then hb4.out (Below.refl _ _))
            obtain ⟨a1, c1, hs1, hr1⟩ := run_part_hi elInts hr3 (by simp [hln]) jj (by omega)
            obtain ⟨a2, c2, hs2, hr2⟩ := run_part_lo elInts hr3 (by simp [hln]) jj (by omega)
            rw [Nat.mul_one, ← List.map_take] at hr1
            rw [Nat.mul_one, ← List.map_drop] at hr2
            have ones : ∀ (x : List Int), ∀ u ∈ x.map ic, u.oneCell' = true := fun x u hu => by obtain ⟨q, _, rfl⟩ := List.mem_map.1 hu; rfl
            have hkn : k ≤ 1000000 := by omega
            have HS1 := Lib.hid hs1
            have HS2 := Lib.hid hs2
            have HR1 := Lib.hid hr1
            have HR2 := Lib.hid hr2
            have hlt1 : (o.take jj).length = jj := by rw [List.length_take]; omega
            have hld1 : (o.drop jj).length = k - jj := by rw [List.length_drop]; omega
            clear hs1 hs2 hr1 hr2 hr3
            go_wp2_with fail
            refine wp_region_inv0 (by kernel_rfl) (by kernel_rfl) (by kernel_rfl) (fun d act wx => ∃ g s3 s32 s33 s34 s35 s36 s37 s38 s39 s40 s41 s42 s43, act = ⟨((.slice ao n c) :: undef :: (.slice none 0 0) :: s3 :: (.int .i64 k) :: (.int .i64 jj) :: (.int .i64 k) :: (.slice ao n c) :: (.int .i64 n) :: (.bool true) :: u10 :: u11 :: (.slice oa k oc) :: (.int .i64 k) :: (.int .i64 jj) :: (.bool true) :: (.slice ao n c) :: (.int .i64 k) :: (.pointer (some ⟨b1, o1, none⟩)) :: (.agg #[.int .i64 l[k].t, .int .i64 l[k].d, .int .i64 l[k].s]) :: (.slice ao n c) :: (.slice oa k oc) :: (.int .i64 jj) :: (.int .i64 j) :: (.pointer (some A)) :: (ic y) :: (.pointer (some ⟨b2, o2, none⟩)) :: (.agg #[.int .i64 l[y].t, .int .i64 l[y].d, .int .i64 l[y].s]) :: (.bool false) :: (.bool true) :: u30 :: u31 :: s32 :: s33 :: s34 :: s35 :: s36 :: s37 :: s38 :: s39 :: s40 :: s41 :: s42 :: s43 :: undef :: []).toArray, []⟩ ∧ OrdR w3 oa oc k jj o a1 a2 c1 c2 d g s3 s32 s33 s34 s35 s36 s37 s38 s39 s40 s41 s42 s43 wx) ?jinit ?jstep ?jfin
            case jinit => exact ⟨0, _, _, _, _, _, _, _, _, _, _, _, _, _, rfl, ⟨(Below.refl _ _).drew, fun _ => rfl, (fun q => nomatch q), (fun q => nomatch q), (fun q => nomatch q), (fun q => nomatch q), (fun q => nomatch q), (fun q => nomatch q), (fun q => nomatch q), (fun q => nomatch q), (fun q => nomatch q), (fun q => nomatch q), (fun q => nomatch q), (fun q => nomatch q), (fun q => nomatch q), (fun q => nomatch q), (fun q => nomatch q), fun q => nomatch q⟩⟩
            case jstep =>
              intro i hi o ho d hdep hd hcl act wx hI K hK
              obtain ⟨g, s3, s32, s33, s34, s35, s36, s37, s38, s39, s40, s41, s42, s43, rfl, I⟩ := hI
              have hin : i < 13 := hi
              obtain rfl | rfl | rfl | rfl | rfl | rfl | rfl | rfl | rfl | rfl | rfl | rfl | rfl : i = 0 ∨ i = 1 ∨ i = 2 ∨ i = 3 ∨ i = 4 ∨ i = 5 ∨ i = 6 ∨ i = 7 ∨ i = 8 ∨ i = 9 ∨ i = 10 ∨ i = 11 ∨ i = 12 := by omega
              all_goals (cases ho; simp only [Region.binds, List.mem_cons, List.not_mem_nil, or_false, forall_eq_or_imp, forall_eq, forall_const] at hdep)
              · have z4 := hcl 4 _ rfl
                simp only [Region.binds, List.mem_cons, List.not_mem_nil, or_false, forall_eq_or_imp, forall_eq, forall_const] at z4
                have f4 : d 4 = false := by
                  cases hz : d 4 with
                  | false => rfl
                  | true =>
                    have hz' := z4 hz
                    simp [hd] at hz'
                clear z4
                have z7 := hcl 7 _ rfl
                simp only [Region.binds, List.mem_cons, List.not_mem_nil, or_false, forall_eq_or_imp, forall_eq, forall_const] at z7
                have f7 : d 7 = false := by
                  cases hz : d 7 with
                  | false => rfl
                  | true =>
                    have hz' := z7 hz
                    simp [f4] at hz'
                clear z7
                have F4 := Lib.hid f4
                clear f4
                have F7 := Lib.hid f7
                clear f7
                have HI := Lib.hid I
                have HK := Lib.hid hK
                have HD := Lib.hid hd
                have HDP := Lib.hid hdep
                clear I hK hd hdep hi hin hcl
                go_simp
                have hb := below_alloc wx (.cells #[] 3)
                exact HK.out _ _ ⟨g, _, _, _, _, _, _, _, _, _, _, _, _, _, rfl, ⟨below_then HI.out.b hb, fun q0 => HI.out.q3 (by simpa using q0), fun _ _ => World.ownsRow_lit wx #[] 0 HI.out.b.size (by decide) rfl, fun _ _ q => fun e => by have hlt := World.block_lt_of_cell? _ _ (HI.out.c38 (by simpa using q) F7.out); simp [Value.ownBlock] at e; subst e; exact Nat.lt_irrefl _ hlt, fun q0 => HI.out.p33 (by simpa using q0), fun q0 => HI.out.p34 (by simpa using q0), fun q0 => HI.out.p35 (by simpa using q0), fun q0 q1 => own_later (HI.out.o36 (by simpa using q0) (by simpa using q1)) hb, fun q0 q1 q2 => HI.out.n36 (by simpa using q0) (by simpa using q1) (by simpa using q2), fun q0 => HI.out.p37 (by simpa using q0), fun q0 q1 => HI.out.p38 (by simpa using q0) (by simpa using q1), fun q0 q1 => cell_later hb (HI.out.c38 (by simpa using q0) (by simpa using q1)), fun q0 q1 => own_later (HI.out.o39 (by simpa using q0) (by simpa using q1)) hb, fun q0 => HI.out.p40 (by simpa using q0), fun q0 => HI.out.p41 (by simpa using q0), fun q0 => HI.out.p42 (by simpa using q0), fun q0 => own_later (HI.out.o43 (by simpa using q0)) hb, fun q0 => HI.out.q12 (by simpa using q0)⟩⟩
              · have z12 := hcl 12 _ rfl
                simp only [Region.binds, List.mem_cons, List.not_mem_nil, or_false, forall_eq_or_imp, forall_eq, forall_const] at z12
                have f12 : d 12 = false := by
                  cases hz : d 12 with
                  | false => rfl
                  | true =>
                    have hz' := z12 hz
                    simp [hd] at hz'
                clear z12
                obtain rfl := I.q3 f12
                have F12 := Lib.hid f12
                clear f12
                have HI := Lib.hid I
                have HK := Lib.hid hK
                have HD := Lib.hid hd
                have HDP := Lib.hid hdep
                clear I hK hd hdep hi hin hcl
                go_simp
                exact HK.out _ _ ⟨g, _, _, _, _, _, _, _, _, _, _, _, _, _, rfl, ⟨HI.out.b, fun q0 => HI.out.q3 (by simpa using q0), fun q0 q1 => HI.out.o32 (by simpa using q0) (by simpa using q1), fun q0 q1 q2 => HI.out.n32 (by simpa using q0) (by simpa using q1) (by simpa using q2), fun _ => rfl, fun q0 => HI.out.p34 (by simpa using q0), fun q0 => HI.out.p35 (by simpa using q0), fun q0 q1 => HI.out.o36 (by simpa using q0) (by simpa using q1), fun q0 q1 q2 => HI.out.n36 (by simpa using q0) (by simpa using q1) (by simpa using q2), fun q0 => HI.out.p37 (by simpa using q0), fun q0 q1 => HI.out.p38 (by simpa using q0) (by simpa using q1), fun q0 q1 => HI.out.c38 (by simpa using q0) (by simpa using q1), fun q0 q1 => HI.out.o39 (by simpa using q0) (by simpa using q1), fun q0 => HI.out.p40 (by simpa using q0), fun q0 => HI.out.p41 (by simpa using q0), fun q0 => HI.out.p42 (by simpa using q0), fun q0 => HI.out.o43 (by simpa using q0), fun q0 => HI.out.q12 (by simpa using q0)⟩⟩
              · have HI := Lib.hid I
                have HK := Lib.hid hK
                have HD := Lib.hid hd
                have HDP := Lib.hid hdep
                clear I hK hd hdep hi hin hcl
                go_simp
                exact HK.out _ _ ⟨g, _, _, _, _, _, _, _, _, _, _, _, _, _, rfl, ⟨HI.out.b, fun q0 => HI.out.q3 (by simpa using q0), fun q0 q1 => HI.out.o32 (by simpa using q0) (by simpa using q1), fun q0 q1 q2 => HI.out.n32 (by simpa using q0) (by simpa using q1) (by simpa using q2), fun q0 => HI.out.p33 (by simpa using q0), fun _ => rfl, fun q0 => HI.out.p35 (by simpa using q0), fun q0 q1 => HI.out.o36 (by simpa using q0) (by simpa using q1), fun q0 q1 q2 => HI.out.n36 (by simpa using q0) (by simpa using q1) (by simpa using q2), fun q0 => HI.out.p37 (by simpa using q0), fun q0 q1 => HI.out.p38 (by simpa using q0) (by simpa using q1), fun q0 q1 => HI.out.c38 (by simpa using q0) (by simpa using q1), fun q0 q1 => HI.out.o39 (by simpa using q0) (by simpa using q1), fun q0 => HI.out.p40 (by simpa using q0), fun q0 => HI.out.p41 (by simpa using q0), fun q0 => HI.out.p42 (by simpa using q0), fun q0 => HI.out.o43 (by simpa using q0), fun q0 => HI.out.q12 (by simpa using q0)⟩⟩
              · obtain rfl := I.p33 hdep.1
                obtain rfl := I.p34 hdep.2
                have hs1 := HS1.out
                have HI := Lib.hid I
                have HK := Lib.hid hK
                have HD := Lib.hid hd
                have HDP := Lib.hid hdep
                clear I hK hd hdep hi hin hcl
                go_simp
                exact HK.out _ _ ⟨g, _, _, _, _, _, _, _, _, _, _, _, _, _, rfl, ⟨HI.out.b, fun q0 => HI.out.q3 (by simpa using q0), fun q0 q1 => HI.out.o32 (by simpa using q0) (by simpa using q1), fun q0 q1 q2 => HI.out.n32 (by simpa using q0) (by simpa using q1) (by simpa using q2), fun q0 => HI.out.p33 (by simpa using q0), fun q0 => HI.out.p34 (by simpa using q0), fun _ => rfl, fun q0 q1 => HI.out.o36 (by simpa using q0) (by simpa using q1), fun q0 q1 q2 => HI.out.n36 (by simpa using q0) (by simpa using q1) (by simpa using q2), fun q0 => HI.out.p37 (by simpa using q0), fun q0 q1 => HI.out.p38 (by simpa using q0) (by simpa using q1), fun q0 q1 => HI.out.c38 (by simpa using q0) (by simpa using q1), fun q0 q1 => HI.out.o39 (by simpa using q0) (by simpa using q1), fun q0 => HI.out.p40 (by simpa using q0), fun q0 => HI.out.p41 (by simpa using q0), fun q0 => HI.out.p42 (by simpa using q0), fun q0 => HI.out.o43 (by simpa using q0), fun q0 => HI.out.q12 (by simpa using q0)⟩⟩
              · have z7 := hcl 7 _ rfl
                simp only [Region.binds, List.mem_cons, List.not_mem_nil, or_false, forall_eq_or_imp, forall_eq, forall_const] at z7
                have f7 : d 7 = false := by
                  cases hz : d 7 with
                  | false => rfl
                  | true =>
                    have hz' := z7 hz
                    simp [hd] at hz'
                clear z7
                have z11 := hcl 11 _ rfl
                simp only [Region.binds, List.mem_cons, List.not_mem_nil, or_false, forall_eq_or_imp, forall_eq, forall_const] at z11
                have f11 : d 11 = false := by
                  cases hz : d 11 with
                  | false => rfl
                  | true =>
                    have hz' := z11 hz
                    simp [f7] at hz'
                clear z11
                obtain rfl := I.p35 hdep.2
                have F7 := Lib.hid f7
                clear f7
                have F11 := Lib.hid f11
                clear f11
                have HI := Lib.hid I
                have HK := Lib.hid hK
                have HD := Lib.hid hd
                have HDP := Lib.hid hdep
                clear I hK hd hdep hi hin hcl
                refine step_app0 elInts ⟨_, elInts.ty, fun k h => by cases h⟩ (.tmp 32) (.tmp 35) rfl (B := w3.heap.size) rfl rfl (HI.out.o32 HDP.out.1 HD.out) (Src.of_rd (HR1.out.later HI.out.b) (by rw [List.length_map, List.length_take]; omega)) (ones _) (by simp only [maxLen]; omega) (by omega) HI.out.b.size fun v' w' own' grow' blk' => ?_
                have hbg := HI.out.b.grown grow' HI.out.b.size (fun k hk => ((HI.out.o32 HDP.out.1 HD.out).lt k hk).1)
                exact HK.out _ _ ⟨g, _, _, _, _, _, v', _, _, _, _, _, _, _, rfl, ⟨hbg, fun q0 => HI.out.q3 (by simpa using q0), fun _ q => by simp at q, fun _ q _ => by simp at q, fun q0 => HI.out.p33 (by simpa using q0), fun q0 => HI.out.p34 (by simpa using q0), fun q0 => HI.out.p35 (by simpa using q0), fun _ _ => by simpa using own', fun _ _ q => by rcases blk' with e | e <;> rw [e]; exact HI.out.n32 HDP.out.1 HD.out (by simpa using q); intro e'; have hlt := World.block_lt_of_cell? _ _ (HI.out.c38 (by simpa using q) F7.out); simp at e'; subst e'; exact Nat.lt_irrefl _ hlt, fun q0 => HI.out.p37 (by simpa using q0), fun q0 q1 => HI.out.p38 (by simpa using q0) (by simpa using q1), fun q0 q1 => grown_cell grow' (HI.out.c38 (by simpa using q0) F7.out) (HI.out.n32 HDP.out.1 HD.out (by simpa using q0)), fun q0 _ => by simp [F7.out] at q0, fun q0 => HI.out.p40 (by simpa using q0), fun q0 => HI.out.p41 (by simpa using q0), fun q0 => HI.out.p42 (by simpa using q0), fun q0 => by simp [F11.out] at q0, fun q0 => HI.out.q12 (by simpa using q0)⟩⟩
              · have HI := Lib.hid I
                have HK := Lib.hid hK
                have HD := Lib.hid hd
                have HDP := Lib.hid hdep
                clear I hK hd hdep hi hin hcl
                go_simp
                exact HK.out _ _ ⟨g, _, _, _, _, _, _, _, _, _, _, _, _, _, rfl, ⟨HI.out.b, fun q0 => HI.out.q3 (by simpa using q0), fun q0 q1 => HI.out.o32 (by simpa using q0) (by simpa using q1), fun q0 q1 q2 => HI.out.n32 (by simpa using q0) (by simpa using q1) (by simpa using q2), fun q0 => HI.out.p33 (by simpa using q0), fun q0 => HI.out.p34 (by simpa using q0), fun q0 => HI.out.p35 (by simpa using q0), fun q0 q1 => HI.out.o36 (by simpa using q0) (by simpa using q1), fun q0 q1 q2 => HI.out.n36 (by simpa using q0) (by simpa using q1) (by simpa using q2), fun _ => rfl, fun q0 q1 => HI.out.p38 (by simpa using q0) (by simpa using q1), fun q0 q1 => HI.out.c38 (by simpa using q0) (by simpa using q1), fun q0 q1 => HI.out.o39 (by simpa using q0) (by simpa using q1), fun q0 => HI.out.p40 (by simpa using q0), fun q0 => HI.out.p41 (by simpa using q0), fun q0 => HI.out.p42 (by simpa using q0), fun q0 => HI.out.o43 (by simpa using q0), fun q0 => HI.out.q12 (by simpa using q0)⟩⟩
              · have z7 := hcl 7 _ rfl
                simp only [Region.binds, List.mem_cons, List.not_mem_nil, or_false, forall_eq_or_imp, forall_eq, forall_const] at z7
                have f7 : d 7 = false := by
                  cases hz : d 7 with
                  | false => rfl
                  | true =>
                    have hz' := z7 hz
                    simp [hd] at hz'
                clear z7
                obtain rfl := I.p37 hdep
                have F7 := Lib.hid f7
                clear f7
                have HI := Lib.hid I
                have HK := Lib.hid hK
                have HD := Lib.hid hd
                have HDP := Lib.hid hdep
                clear I hK hd hdep hi hin hcl
                go_simp
                have hb := below_alloc wx (.cells #[.int .i64 k] 3)
                exact HK.out _ _ ⟨wx.heap.size, _, _, _, _, _, _, _, _, _, _, _, _, _, rfl, ⟨below_then HI.out.b hb, fun q0 => HI.out.q3 (by simpa using q0), fun q0 q1 => own_later (HI.out.o32 (by simpa using q0) (by simpa using q1)) hb, fun q0 q1 _ e => absurd ((HI.out.o32 (by simpa using q0) (by simpa using q1)).lt _ e).2 (Nat.lt_irrefl _), fun q0 => HI.out.p33 (by simpa using q0), fun q0 => HI.out.p34 (by simpa using q0), fun q0 => HI.out.p35 (by simpa using q0), fun q0 q1 => own_later (HI.out.o36 (by simpa using q0) (by simpa using q1)) hb, fun q0 q1 _ e => absurd ((HI.out.o36 (by simpa using q0) (by simpa using q1)).lt _ e).2 (Nat.lt_irrefl _), fun q0 => HI.out.p37 (by simpa using q0), fun _ _ => rfl, fun _ _ => by simp [go_sem, ic], fun q0 q1 => own_later (HI.out.o39 (by simpa using q0) (by simpa using q1)) hb, fun q0 => HI.out.p40 (by simpa using q0), fun q0 => HI.out.p41 (by simpa using q0), fun q0 => HI.out.p42 (by simpa using q0), fun q0 => own_later (HI.out.o43 (by simpa using q0)) hb, fun q0 => HI.out.q12 (by simpa using q0)⟩⟩
              · have z11 := hcl 11 _ rfl
                simp only [Region.binds, List.mem_cons, List.not_mem_nil, or_false, forall_eq_or_imp, forall_eq, forall_const] at z11
                have f11 : d 11 = false := by
                  cases hz : d 11 with
                  | false => rfl
                  | true =>
                    have hz' := z11 hz
                    simp [hd] at hz'
                clear z11
                obtain rfl := I.p38 hdep.2.1 hd
                have F11 := Lib.hid f11
                clear f11
                have HI := Lib.hid I
                have HK := Lib.hid hK
                have HD := Lib.hid hd
                have HDP := Lib.hid hdep
                clear I hK hd hdep hi hin hcl
                refine step_app0 elInts ⟨_, elInts.ty, fun k h => by cases h⟩ (.tmp 36) (.tmp 38) rfl (B := w3.heap.size) rfl rfl (HI.out.o36 HDP.out.1 HD.out) (Src.of_rd (rd_box (HI.out.c38 HDP.out.2.1 HD.out)) rfl) (fun u hu => by rw [List.mem_singleton.1 hu]; rfl) (by simp only [maxLen]; omega) (by omega) HI.out.b.size fun v' w' own' grow' blk' => ?_
                have hbg := HI.out.b.grown grow' HI.out.b.size (fun k hk => ((HI.out.o36 HDP.out.1 HD.out).lt k hk).1)
                exact HK.out _ _ ⟨g, _, _, _, _, _, _, _, _, v', _, _, _, _, rfl, ⟨hbg, fun q0 => HI.out.q3 (by simpa using q0), fun _ q => by simp [HDP.out.1] at q, fun _ q _ => by simp [HDP.out.1] at q, fun q0 => HI.out.p33 (by simpa using q0), fun q0 => HI.out.p34 (by simpa using q0), fun q0 => HI.out.p35 (by simpa using q0), fun _ q => by simp at q, fun _ q _ => by simp at q, fun q0 => HI.out.p37 (by simpa using q0), fun _ q => by simp at q, fun _ q => by simp at q, fun _ _ => own', fun q0 => HI.out.p40 (by simpa using q0), fun q0 => HI.out.p41 (by simpa using q0), fun q0 => HI.out.p42 (by simpa using q0), fun q0 => by simp [F11.out] at q0, fun q0 => HI.out.q12 (by simpa using q0)⟩⟩
              · have z12 := hcl 12 _ rfl
                simp only [Region.binds, List.mem_cons, List.not_mem_nil, or_false, forall_eq_or_imp, forall_eq, forall_const] at z12
                have f12 : d 12 = false := by
                  cases hz : d 12 with
                  | false => rfl
                  | true =>
                    have hz' := z12 hz
                    simp [hd] at hz'
                clear z12
                obtain rfl := I.q3 f12
                have F12 := Lib.hid f12
                clear f12
                have HI := Lib.hid I
                have HK := Lib.hid hK
                have HD := Lib.hid hd
                have HDP := Lib.hid hdep
                clear I hK hd hdep hi hin hcl
                go_simp
                exact HK.out _ _ ⟨g, _, _, _, _, _, _, _, _, _, _, _, _, _, rfl, ⟨HI.out.b, fun q0 => HI.out.q3 (by simpa using q0), fun q0 q1 => HI.out.o32 (by simpa using q0) (by simpa using q1), fun q0 q1 q2 => HI.out.n32 (by simpa using q0) (by simpa using q1) (by simpa using q2), fun q0 => HI.out.p33 (by simpa using q0), fun q0 => HI.out.p34 (by simpa using q0), fun q0 => HI.out.p35 (by simpa using q0), fun q0 q1 => HI.out.o36 (by simpa using q0) (by simpa using q1), fun q0 q1 q2 => HI.out.n36 (by simpa using q0) (by simpa using q1) (by simpa using q2), fun q0 => HI.out.p37 (by simpa using q0), fun q0 q1 => HI.out.p38 (by simpa using q0) (by simpa using q1), fun q0 q1 => HI.out.c38 (by simpa using q0) (by simpa using q1), fun q0 q1 => HI.out.o39 (by simpa using q0) (by simpa using q1), fun _ => rfl, fun q0 => HI.out.p41 (by simpa using q0), fun q0 => HI.out.p42 (by simpa using q0), fun q0 => HI.out.o43 (by simpa using q0), fun q0 => HI.out.q12 (by simpa using q0)⟩⟩
              · have HI := Lib.hid I
                have HK := Lib.hid hK
                have HD := Lib.hid hd
                have HDP := Lib.hid hdep
                clear I hK hd hdep hi hin hcl
                go_simp
                exact HK.out _ _ ⟨g, _, _, _, _, _, _, _, _, _, _, _, _, _, rfl, ⟨HI.out.b, fun q0 => HI.out.q3 (by simpa using q0), fun q0 q1 => HI.out.o32 (by simpa using q0) (by simpa using q1), fun q0 q1 q2 => HI.out.n32 (by simpa using q0) (by simpa using q1) (by simpa using q2), fun q0 => HI.out.p33 (by simpa using q0), fun q0 => HI.out.p34 (by simpa using q0), fun q0 => HI.out.p35 (by simpa using q0), fun q0 q1 => HI.out.o36 (by simpa using q0) (by simpa using q1), fun q0 q1 q2 => HI.out.n36 (by simpa using q0) (by simpa using q1) (by simpa using q2), fun q0 => HI.out.p37 (by simpa using q0), fun q0 q1 => HI.out.p38 (by simpa using q0) (by simpa using q1), fun q0 q1 => HI.out.c38 (by simpa using q0) (by simpa using q1), fun q0 q1 => HI.out.o39 (by simpa using q0) (by simpa using q1), fun q0 => HI.out.p40 (by simpa using q0), fun _ => rfl, fun q0 => HI.out.p42 (by simpa using q0), fun q0 => HI.out.o43 (by simpa using q0), fun q0 => HI.out.q12 (by simpa using q0)⟩⟩
              · obtain rfl := I.p40 hdep.1
                obtain rfl := I.p41 hdep.2
                have hs2 := HS2.out
                have HI := Lib.hid I
                have HK := Lib.hid hK
                have HD := Lib.hid hd
                have HDP := Lib.hid hdep
                clear I hK hd hdep hi hin hcl
                go_simp
                exact HK.out _ _ ⟨g, _, _, _, _, _, _, _, _, _, _, _, _, _, rfl, ⟨HI.out.b, fun q0 => HI.out.q3 (by simpa using q0), fun q0 q1 => HI.out.o32 (by simpa using q0) (by simpa using q1), fun q0 q1 q2 => HI.out.n32 (by simpa using q0) (by simpa using q1) (by simpa using q2), fun q0 => HI.out.p33 (by simpa using q0), fun q0 => HI.out.p34 (by simpa using q0), fun q0 => HI.out.p35 (by simpa using q0), fun q0 q1 => HI.out.o36 (by simpa using q0) (by simpa using q1), fun q0 q1 q2 => HI.out.n36 (by simpa using q0) (by simpa using q1) (by simpa using q2), fun q0 => HI.out.p37 (by simpa using q0), fun q0 q1 => HI.out.p38 (by simpa using q0) (by simpa using q1), fun q0 q1 => HI.out.c38 (by simpa using q0) (by simpa using q1), fun q0 q1 => HI.out.o39 (by simpa using q0) (by simpa using q1), fun q0 => HI.out.p40 (by simpa using q0), fun q0 => HI.out.p41 (by simpa using q0), fun _ => rfl, fun q0 => HI.out.o43 (by simpa using q0), fun q0 => HI.out.q12 (by simpa using q0)⟩⟩
              · have z12 := hcl 12 _ rfl
                simp only [Region.binds, List.mem_cons, List.not_mem_nil, or_false, forall_eq_or_imp, forall_eq, forall_const] at z12
                have f12 : d 12 = false := by
                  cases hz : d 12 with
                  | false => rfl
                  | true =>
                    have hz' := z12 hz
                    simp [hd] at hz'
                clear z12
                obtain rfl := I.p42 hdep.2.1
                have z7 := hcl 7 _ rfl hdep.1
                simp only [Region.binds, List.mem_cons, List.not_mem_nil, or_false, forall_eq_or_imp, forall_eq, forall_const] at z7
                have Z7 := Lib.hid z7
                clear z7
                have F12 := Lib.hid f12
                clear f12
                have HI := Lib.hid I
                have HK := Lib.hid hK
                have HD := Lib.hid hd
                have HDP := Lib.hid hdep
                clear I hK hd hdep hi hin hcl
                refine step_app0 elInts ⟨_, elInts.ty, fun k h => by cases h⟩ (.tmp 39) (.tmp 42) rfl (B := w3.heap.size) rfl rfl (HI.out.o39 HDP.out.1 HD.out) (Src.of_rd (HR2.out.later HI.out.b) (by simp; omega)) (ones _) (by simp only [maxLen]; omega) (by omega) HI.out.b.size fun v' w' own' grow' blk' => ?_
                have hbg := HI.out.b.grown grow' HI.out.b.size (fun k hk => ((HI.out.o39 HDP.out.1 HD.out).lt k hk).1)
                exact HK.out _ _ ⟨g, _, _, _, _, _, _, _, _, _, _, _, _, v', rfl, ⟨hbg, fun q0 => HI.out.q3 (by simpa using q0), fun _ q => by simp [Z7.out.1] at q, fun _ q _ => by simp [Z7.out.1] at q, fun q0 => HI.out.p33 (by simpa using q0), fun q0 => HI.out.p34 (by simpa using q0), fun q0 => HI.out.p35 (by simpa using q0), fun _ q => by simp [HDP.out.1] at q, fun _ q _ => by simp [HDP.out.1] at q, fun q0 => HI.out.p37 (by simpa using q0), fun _ q => by simp [HDP.out.1] at q, fun _ q => by simp [HDP.out.1] at q, fun _ q => by simp at q, fun q0 => HI.out.p40 (by simpa using q0), fun q0 => HI.out.p41 (by simpa using q0), fun q0 => HI.out.p42 (by simpa using q0), fun _ => own', fun q => by simp [F12.out] at q⟩⟩
              · have HI := Lib.hid I
                have HK := Lib.hid hK
                have HD := Lib.hid hd
                have HDP := Lib.hid hdep
                clear I hK hd hdep hi hin hcl
                go_simp
                exact HK.out _ _ ⟨g, _, _, _, _, _, _, _, _, _, _, _, _, _, rfl, ⟨HI.out.b, fun q => by simp at q, fun q0 q1 => HI.out.o32 (by simpa using q0) (by simpa using q1), fun q0 q1 q2 => HI.out.n32 (by simpa using q0) (by simpa using q1) (by simpa using q2), fun q0 => HI.out.p33 (by simpa using q0), fun q0 => HI.out.p34 (by simpa using q0), fun q0 => HI.out.p35 (by simpa using q0), fun q0 q1 => HI.out.o36 (by simpa using q0) (by simpa using q1), fun q0 q1 q2 => HI.out.n36 (by simpa using q0) (by simpa using q1) (by simpa using q2), fun q0 => HI.out.p37 (by simpa using q0), fun q0 q1 => HI.out.p38 (by simpa using q0) (by simpa using q1), fun q0 q1 => HI.out.c38 (by simpa using q0) (by simpa using q1), fun q0 q1 => HI.out.o39 (by simpa using q0) (by simpa using q1), fun q0 => HI.out.p40 (by simpa using q0), fun q0 => HI.out.p41 (by simpa using q0), fun q0 => HI.out.p42 (by simpa using q0), fun q0 => HI.out.o43 (by simpa using q0), fun _ => rfl⟩⟩
            case jfin =>
              intro d act wx hI hall
              obtain ⟨g, s3, s32, s33, s34, s35, s36, s37, s38, s39, s40, s41, s42, s43, rfl, I⟩ := hI
              obtain rfl := I.q12 (hall 12 (by decide))
              have hown := I.o43 (hall 11 (by decide))
              have hbx := I.b
              clear I hall
              have hrd2 : Rd wx s3 (k + 1) ((isortL (ltC (cmpAt l)) (upto (k + 1))).map ic) := by
                have := Rd.of_own hown
                rw [show jj + 1 + (k - jj) = k + 1 by omega] at this
                rw [HFIN.out]
                simpa using this
              have hrd2 := Lib.hid hrd2
              have hb5 := Lib.hid (below_then hbw.out (below_then hb4.out hbx))
              clear hown hbx
              go_wp2_with fail
              go_roundw
              case rel => exact ⟨k + 1, by omega, by go_num, hrd2, hb5⟩
              case measure => simp [intOf]; omega
          · have HLS := Lib.hid hls
            rw [hls] at cS
            clear hls
            go_wp2_with fail
            have kc0 := cell_regrown c0
            have kc1 := cell_regrown c1
            have kc2 := cell_regrown c2
            have kd0 := cell_regrown d0
            have kd1 := cell_regrown d1
            have kd2 := cell_regrown d2
            have ke0 := cell_regrown e0
            refine wp_region_quiet_below (by kernel_rfl) (by kernel_rfl) ?_
            repeat (go_big_quiet_step (first | exact cS _ _))
            refine wpQuiet_nil ?_
            intro _ hw'
            obtain ⟨⟨dq, osq⟩, hw''⟩ := hw'
            subst hw''
            clear kc0 kc1 kc2 kd0 kd1 kd2 ke0 cS
            have hb3 := below_regrown w2 dq osq
            generalize grow (redrawn w2 dq) osq = w3 at *
            replace c0 := cell_later hb3 c0
            replace c1 := cell_later hb3 c1
            replace c2 := cell_later hb3 c2
            replace d0 := cell_later hb3 d0
            replace d1 := cell_later hb3 d1
            replace d2 := cell_later hb3 d2
            replace e0 := cell_later hb3 e0
            have hb4 := Lib.hid (below_then hb2.out hb3)
            have hY' : Hid (∀ y ∈ o.drop j, ltC (cmpAt l) (k : Int) y = true) := by
              intro z hz
              rw [List.drop_eq_getElem_cons hjo] at hz
              rcases List.mem_cons.1 hz with rfl | hz
              · rw [HCM.out, HLS.out]
              · exact hY.out z hz
            clear hb3 c0 c1 c2 d0 d1 d2 e0
            go_wp2_with fail
            go_roundw
            case rel => exact ⟨j, by omega, by go_num, hY', hb4⟩
            case measure => simp [intOf]
        · have hjz : j = 0 := by omega
          have hfin : isortL (ltC (cmpAt l)) (upto (k + 1)) = o.take j ++ (k : Int) :: o.drop j := by
            subst hjz
            rw [upto_succ]
            refine ins_end (swoAt l) (by rw [HOE.out]; rfl) hY.out ?_
            intro z hz; simp at hz
          have HFIN := Lib.hid hfin
          have hb4 := hb2
          clear hfin hjz
          generalize j = jj at *
          generalize w2 = w3 at *
          have hln : o.length = k := HOL.out
          have hr3 := hrd.out.later (below_then hb4.out (Below.refl _ _))
          obtain ⟨a1, c1, hs1, hr1⟩ := run_part_hi elInts hr3 (by simp [hln]) jj (by omega)
          obtain ⟨a2, c2, hs2, hr2⟩ := run_part_lo elInts hr3 (by simp [hln]) jj (by omega)
          rw [Nat.mul_one, ← List.map_take] at hr1
          rw [Nat.mul_one, ← List.map_drop] at hr2
          have ones : ∀ (x : List Int), ∀ u ∈ x.map ic, u.oneCell' = true := fun x u hu => by obtain ⟨q, _, rfl⟩ := List.mem_map.1 hu; rfl
          have hkn : k ≤ 1000000 := by omega
          have HS1 := Lib.hid hs1
          have HS2 := Lib.hid hs2
          have HR1 := Lib.hid hr1
          have HR2 := Lib.hid hr2
          have hlt1 : (o.take jj).length = jj := by rw [List.length_take]; omega
          have hld1 : (o.drop jj).length = k - jj := by rw [List.length_drop]; omega
          clear hs1 hs2 hr1 hr2 hr3
          go_wp2_with fail
          refine wp_region_inv0 (by kernel_rfl) (by kernel_rfl) (by kernel_rfl) (fun d act wx => ∃ g s3 s32 s33 s34 s35 s36 s37 s38 s39 s40 s41 s42 s43, act = ⟨((.slice ao n c) :: undef :: (.slice none 0 0) :: s3 :: (.int .i64 k) :: (.int .i64 jj) :: (.int .i64 k) :: (.slice ao n c) :: (.int .i64 n) :: (.bool true) :: u10 :: u11 :: (.slice oa k oc) :: (.int .i64 k) :: (.int .i64 jj) :: (.bool false) :: u16 :: u17 :: u18 :: u19 :: u20 :: u21 :: u22 :: u23 :: u24 :: u25 :: u26 :: u27 :: u28 :: u29 :: u30 :: u31 :: s32 :: s33 :: s34 :: s35 :: s36 :: s37 :: s38 :: s39 :: s40 :: s41 :: s42 :: s43 :: undef :: []).toArray, []⟩ ∧ OrdR w3 oa oc k jj o a1 a2 c1 c2 d g s3 s32 s33 s34 s35 s36 s37 s38 s39 s40 s41 s42 s43 wx) ?yinit ?ystep ?yfin
          case yinit => exact ⟨0, _, _, _, _, _, _, _, _, _, _, _, _, _, rfl, ⟨(Below.refl _ _).drew, fun _ => rfl, (fun q => nomatch q), (fun q => nomatch q), (fun q => nomatch q), (fun q => nomatch q), (fun q => nomatch q), (fun q => nomatch q), (fun q => nomatch q), (fun q => nomatch q), (fun q => nomatch q), (fun q => nomatch q), (fun q => nomatch q), (fun q => nomatch q), (fun q => nomatch q), (fun q => nomatch q), (fun q => nomatch q), fun q => nomatch q⟩⟩
          case ystep =>
            intro i hi o ho d hdep hd hcl act wx hI K hK
            obtain ⟨g, s3, s32, s33, s34, s35, s36, s37, s38, s39, s40, s41, s42, s43, rfl, I⟩ := hI
            have hin : i < 13 := hi
            obtain rfl | rfl | rfl | rfl | rfl | rfl | rfl | rfl | rfl | rfl | rfl | rfl | rfl : i = 0 ∨ i = 1 ∨ i = 2 ∨ i = 3 ∨ i = 4 ∨ i = 5 ∨ i = 6 ∨ i = 7 ∨ i = 8 ∨ i = 9 ∨ i = 10 ∨ i = 11 ∨ i = 12 := by omega
            all_goals (cases ho; simp only [Region.binds, List.mem_cons, List.not_mem_nil, or_false, forall_eq_or_imp, forall_eq, forall_const] at hdep)
            · have z4 := hcl 4 _ rfl
              simp only [Region.binds, List.mem_cons, List.not_mem_nil, or_false, forall_eq_or_imp, forall_eq, forall_const] at z4
              have f4 : d 4 = false := by
                cases hz : d 4 with
                | false => rfl
                | true =>
                  have hz' := z4 hz
                  simp [hd] at hz'
              clear z4
              have z7 := hcl 7 _ rfl
              simp only [Region.binds, List.mem_cons, List.not_mem_nil, or_false, forall_eq_or_imp, forall_eq, forall_const] at z7
              have f7 : d 7 = false := by
                cases hz : d 7 with
                | false => rfl
                | true =>
                  have hz' := z7 hz
                  simp [f4] at hz'
              clear z7
              have F4 := Lib.hid f4
              clear f4
              have F7 := Lib.hid f7
              clear f7
              have HI := Lib.hid I
              have HK := Lib.hid hK
              have HD := Lib.hid hd
              have HDP := Lib.hid hdep
              clear I hK hd hdep hi hin hcl
              go_simp
              have hb := below_alloc wx (.cells #[] 3)
              exact HK.out _ _ ⟨g, _, _, _, _, _, _, _, _, _, _, _, _, _, rfl, ⟨below_then HI.out.b hb, fun q0 => HI.out.q3 (by simpa using q0), fun _ _ => World.ownsRow_lit wx #[] 0 HI.out.b.size (by decide) rfl, fun _ _ q => fun e => by have hlt := World.block_lt_of_cell? _ _ (HI.out.c38 (by simpa using q) F7.out); simp [Value.ownBlock] at e; subst e; exact Nat.lt_irrefl _ hlt, fun q0 => HI.out.p33 (by simpa using q0), fun q0 => HI.out.p34 (by simpa using q0), fun q0 => HI.out.p35 (by simpa using q0), fun q0 q1 => own_later (HI.out.o36 (by simpa using q0) (by simpa using q1)) hb, fun q0 q1 q2 => HI.out.n36 (by simpa using q0) (by simpa using q1) (by simpa using q2), fun q0 => HI.out.p37 (by simpa using q0), fun q0 q1 => HI.out.p38 (by simpa using q0) (by simpa using q1), fun q0 q1 => cell_later hb (HI.out.c38 (by simpa using q0) (by simpa using q1)), fun q0 q1 => own_later (HI.out.o39 (by simpa using q0) (by simpa using q1)) hb, fun q0 => HI.out.p40 (by simpa using q0), fun q0 => HI.out.p41 (by simpa using q0), fun q0 => HI.out.p42 (by simpa using q0), fun q0 => own_later (HI.out.o43 (by simpa using q0)) hb, fun q0 => HI.out.q12 (by simpa using q0)⟩⟩
            · have z12 := hcl 12 _ rfl
              simp only [Region.binds, List.mem_cons, List.not_mem_nil, or_false, forall_eq_or_imp, forall_eq, forall_const] at z12
              have f12 : d 12 = false := by
                cases hz : d 12 with
                | false => rfl
                | true =>
                  have hz' := z12 hz
                  simp [hd] at hz'
              clear z12
              obtain rfl := I.q3 f12
              have F12 := Lib.hid f12
              clear f12
              have HI := Lib.hid I
              have HK := Lib.hid hK
              have HD := Lib.hid hd
              have HDP := Lib.hid hdep
              clear I hK hd hdep hi hin hcl
              go_simp
              exact HK.out _ _ ⟨g, _, _, _, _, _, _, _, _, _, _, _, _, _, rfl, ⟨HI.out.b, fun q0 => HI.out.q3 (by simpa using q0), fun q0 q1 => HI.out.o32 (by simpa using q0) (by simpa using q1), fun q0 q1 q2 => HI.out.n32 (by simpa using q0) (by simpa using q1) (by simpa using q2), fun _ => rfl, fun q0 => HI.out.p34 (by simpa using q0), fun q0 => HI.out.p35 (by simpa using q0), fun q0 q1 => HI.out.o36 (by simpa using q0) (by simpa using q1), fun q0 q1 q2 => HI.out.n36 (by simpa using q0) (by simpa using q1) (by simpa using q2), fun q0 => HI.out.p37 (by simpa using q0), fun q0 q1 => HI.out.p38 (by simpa using q0) (by simpa using q1), fun q0 q1 => HI.out.c38 (by simpa using q0) (by simpa using q1), fun q0 q1 => HI.out.o39 (by simpa using q0) (by simpa using q1), fun q0 => HI.out.p40 (by simpa using q0), fun q0 => HI.out.p41 (by simpa using q0), fun q0 => HI.out.p42 (by simpa using q0), fun q0 => HI.out.o43 (by simpa using q0), fun q0 => HI.out.q12 (by simpa using q0)⟩⟩
            · have HI := Lib.hid I
              have HK := Lib.hid hK
              have HD := Lib.hid hd
              have HDP := Lib.hid hdep
              clear I hK hd hdep hi hin hcl
              go_simp
              exact HK.out _ _ ⟨g, _, _, _, _, _, _, _, _, _, _, _, _, _, rfl, ⟨HI.out.b, fun q0 => HI.out.q3 (by simpa using q0), fun q0 q1 => HI.out.o32 (by simpa using q0) (by simpa using q1), fun q0 q1 q2 => HI.out.n32 (by simpa using q0) (by simpa using q1) (by simpa using q2), fun q0 => HI.out.p33 (by simpa using q0), fun _ => rfl, fun q0 => HI.out.p35 (by simpa using q0), fun q0 q1 => HI.out.o36 (by simpa using q0) (by simpa using q1), fun q0 q1 q2 => HI.out.n36 (by simpa using q0) (by simpa using q1) (by simpa using q2), fun q0 => HI.out.p37 (by simpa using q0), fun q0 q1 => HI.out.p38 (by simpa using q0) (by simpa using q1), fun q0 q1 => HI.out.c38 (by simpa using q0) (by simpa using q1), fun q0 q1 => HI.out.o39 (by simpa using q0) (by simpa using q1), fun q0 => HI.out.p40 (by simpa using q0), fun q0 => HI.out.p41 (by simpa using q0), fun q0 => HI.out.p42 (by simpa using q0), fun q0 => HI.out.o43 (by simpa using q0), fun q0 => HI.out.q12 (by simpa using q0)⟩⟩
            · obtain rfl := I.p33 hdep.1
              obtain rfl := I.p34 hdep.2
              have hs1 := HS1.out
              have HI := Lib.hid I
              have HK := Lib.hid hK
              have HD := Lib.hid hd
              have HDP := Lib.hid hdep
              clear I hK hd hdep hi hin hcl
              go_simp
              exact HK.out _ _ ⟨g, _, _, _, _, _, _, _, _, _, _, _, _, _, rfl, ⟨HI.out.b, fun q0 => HI.out.q3 (by simpa using q0), fun q0 q1 => HI.out.o32 (by simpa using q0) (by simpa using q1), fun q0 q1 q2 => HI.out.n32 (by simpa using q0) (by simpa using q1) (by simpa using q2), fun q0 => HI.out.p33 (by simpa using q0), fun q0 => HI.out.p34 (by simpa using q0), fun _ => rfl, fun q0 q1 => HI.out.o36 (by simpa using q0) (by simpa using q1), fun q0 q1 q2 => HI.out.n36 (by simpa using q0) (by simpa using q1) (by simpa using q2), fun q0 => HI.out.p37 (by simpa using q0), fun q0 q1 => HI.out.p38 (by simpa using q0) (by simpa using q1), fun q0 q1 => HI.out.c38 (by simpa using q0) (by simpa using q1), fun q0 q1 => HI.out.o39 (by simpa using q0) (by simpa using q1), fun q0 => HI.out.p40 (by simpa using q0), fun q0 => HI.out.p41 (by simpa using q0), fun q0 => HI.out.p42 (by simpa using q0), fun q0 => HI.out.o43 (by simpa using q0), fun q0 => HI.out.q12 (by simpa using q0)⟩⟩
            · have z7 := hcl 7 _ rfl
              simp only [Region.binds, List.mem_cons, List.not_mem_nil, or_false, forall_eq_or_imp, forall_eq, forall_const] at z7
              have f7 : d 7 = false := by
                cases hz : d 7 with
                | false => rfl
                | true =>
                  have hz' := z7 hz
                  simp [hd] at hz'
              clear z7
              have z11 := hcl 11 _ rfl
              simp only [Region.binds, List.mem_cons, List.not_mem_nil, or_false, forall_eq_or_imp, forall_eq, forall_const] at z11
              have f11 : d 11 = false := by
                cases hz : d 11 with
                | false => rfl
                | true =>
                  have hz' := z11 hz
                  simp [f7] at hz'
              clear z11
              obtain rfl := I.p35 hdep.2
              have F7 := Lib.hid f7
              clear f7
              have F11 := Lib.hid f11
              clear f11
              have HI := Lib.hid I
              have HK := Lib.hid hK
              have HD := Lib.hid hd
              have HDP := Lib.hid hdep
              clear I hK hd hdep hi hin hcl
              refine step_app0 elInts ⟨_, elInts.ty, fun k h => by cases h⟩ (.tmp 32) (.tmp 35) rfl (B := w3.heap.size) rfl rfl (HI.out.o32 HDP.out.1 HD.out) (Src.of_rd (HR1.out.later HI.out.b) (by rw [List.length_map, List.length_take]; omega)) (ones _) (by simp only [maxLen]; omega) (by omega) HI.out.b.size fun v' w' own' grow' blk' => ?_
              have hbg := HI.out.b.grown grow' HI.out.b.size (fun k hk => ((HI.out.o32 HDP.out.1 HD.out).lt k hk).1)
              exact HK.out _ _ ⟨g, _, _, _, _, _, v', _, _, _, _, _, _, _, rfl, ⟨hbg, fun q0 => HI.out.q3 (by simpa using q0), fun _ q => by simp at q, fun _ q _ => by simp at q, fun q0 => HI.out.p33 (by simpa using q0), fun q0 => HI.out.p34 (by simpa using q0), fun q0 => HI.out.p35 (by simpa using q0), fun _ _ => by simpa using own', fun _ _ q => by rcases blk' with e | e <;> rw [e]; exact HI.out.n32 HDP.out.1 HD.out (by simpa using q); intro e'; have hlt := World.block_lt_of_cell? _ _ (HI.out.c38 (by simpa using q) F7.out); simp at e'; subst e'; exact Nat.lt_irrefl _ hlt, fun q0 => HI.out.p37 (by simpa using q0), fun q0 q1 => HI.out.p38 (by simpa using q0) (by simpa using q1), fun q0 q1 => grown_cell grow' (HI.out.c38 (by simpa using q0) F7.out) (HI.out.n32 HDP.out.1 HD.out (by simpa using q0)), fun q0 _ => by simp [F7.out] at q0, fun q0 => HI.out.p40 (by simpa using q0), fun q0 => HI.out.p41 (by simpa using q0), fun q0 => HI.out.p42 (by simpa using q0), fun q0 => by simp [F11.out] at q0, fun q0 => HI.out.q12 (by simpa using q0)⟩⟩
            · have HI := Lib.hid I
              have HK := Lib.hid hK
              have HD := Lib.hid hd
              have HDP := Lib.hid hdep
              clear I hK hd hdep hi hin hcl
              go_simp
              exact HK.out _ _ ⟨g, _, _, _, _, _, _, _, _, _, _, _, _, _, rfl, ⟨HI.out.b, fun q0 => HI.out.q3 (by simpa using q0), fun q0 q1 => HI.out.o32 (by simpa using q0) (by simpa using q1), fun q0 q1 q2 => HI.out.n32 (by simpa using q0) (by simpa using q1) (by simpa using q2), fun q0 => HI.out.p33 (by simpa using q0), fun q0 => HI.out.p34 (by simpa using q0), fun q0 => HI.out.p35 (by simpa using q0), fun q0 q1 => HI.out.o36 (by simpa using q0) (by simpa using q1), fun q0 q1 q2 => HI.out.n36 (by simpa using q0) (by simpa using q1) (by simpa using q2), fun _ => rfl, fun q0 q1 => HI.out.p38 (by simpa using q0) (by simpa using q1), fun q0 q1 => HI.out.c38 (by simpa using q0) (by simpa using q1), fun q0 q1 => HI.out.o39 (by simpa using q0) (by simpa using q1), fun q0 => HI.out.p40 (by simpa using q0), fun q0 => HI.out.p41 (by simpa using q0), fun q0 => HI.out.p42 (by simpa using q0), fun q0 => HI.out.o43 (by simpa using q0), fun q0 => HI.out.q12 (by simpa using q0)⟩⟩
            · have z7 := hcl 7 _ rfl
              simp only [Region.binds, List.mem_cons, List.not_mem_nil, or_false, forall_eq_or_imp, forall_eq, forall_const] at z7
              have f7 : d 7 = false := by
                cases hz : d 7 with
                | false => rfl
                | true =>
                  have hz' := z7 hz
                  simp [hd] at hz'
              clear z7
              obtain rfl := I.p37 hdep
              have F7 := Lib.hid f7
              clear f7
              have HI := Lib.hid I
              have HK := Lib.hid hK
              have HD := Lib.hid hd
              have HDP := Lib.hid hdep
              clear I hK hd hdep hi hin hcl
              go_simp
              have hb := below_alloc wx (.cells #[.int .i64 k] 3)
              exact HK.out _ _ ⟨wx.heap.size, _, _, _, _, _, _, _, _, _, _, _, _, _, rfl, ⟨below_then HI.out.b hb, fun q0 => HI.out.q3 (by simpa using q0), fun q0 q1 => own_later (HI.out.o32 (by simpa using q0) (by simpa using q1)) hb, fun q0 q1 _ e => absurd ((HI.out.o32 (by simpa using q0) (by simpa using q1)).lt _ e).2 (Nat.lt_irrefl _), fun q0 => HI.out.p33 (by simpa using q0), fun q0 => HI.out.p34 (by simpa using q0), fun q0 => HI.out.p35 (by simpa using q0), fun q0 q1 => own_later (HI.out.o36 (by simpa using q0) (by simpa using q1)) hb, fun q0 q1 _ e => absurd ((HI.out.o36 (by simpa using q0) (by simpa using q1)).lt _ e).2 (Nat.lt_irrefl _), fun q0 => HI.out.p37 (by simpa using q0), fun _ _ => rfl, fun _ _ => by simp [go_sem, ic], fun q0 q1 => own_later (HI.out.o39 (by simpa using q0) (by simpa using q1)) hb, fun q0 => HI.out.p40 (by simpa using q0), fun q0 => HI.out.p41 (by simpa using q0), fun q0 => HI.out.p42 (by simpa using q0), fun q0 => own_later (HI.out.o43 (by simpa using q0)) hb, fun q0 => HI.out.q12 (by simpa using q0)⟩⟩
            · have z11 := hcl 11 _ rfl
              simp only [Region.binds, List.mem_cons, List.not_mem_nil, or_false, forall_eq_or_imp, forall_eq, forall_const] at z11
              have f11 : d 11 = false := by
                cases hz : d 11 with
                | false => rfl
                | true =>
                  have hz' := z11 hz
                  simp [hd] at hz'
              clear z11
              obtain rfl := I.p38 hdep.2.1 hd
              have F11 := Lib.hid f11
              clear f11
              have HI := Lib.hid I
              have HK := Lib.hid hK
              have HD := Lib.hid hd
              have HDP := Lib.hid hdep
              clear I hK hd hdep hi hin hcl
              refine step_app0 elInts ⟨_, elInts.ty, fun k h => by cases h⟩ (.tmp 36) (.tmp 38) rfl (B := w3.heap.size) rfl rfl (HI.out.o36 HDP.out.1 HD.out) (Src.of_rd (rd_box (HI.out.c38 HDP.out.2.1 HD.out)) rfl) (fun u hu => by rw [List.mem_singleton.1 hu]; rfl) (by simp only [maxLen]; omega) (by omega) HI.out.b.size fun v' w' own' grow' blk' => ?_
              have hbg := HI.out.b.grown grow' HI.out.b.size (fun k hk => ((HI.out.o36 HDP.out.1 HD.out).lt k hk).1)
              exact HK.out _ _ ⟨g, _, _, _, _, _, _, _, _, v', _, _, _, _, rfl, ⟨hbg, fun q0 => HI.out.q3 (by simpa using q0), fun _ q => by simp [HDP.out.1] at q, fun _ q _ => by simp [HDP.out.1] at q, fun q0 => HI.out.p33 (by simpa using q0), fun q0 => HI.out.p34 (by simpa using q0), fun q0 => HI.out.p35 (by simpa using q0), fun _ q => by simp at q, fun _ q _ => by simp at q, fun q0 => HI.out.p37 (by simpa using q0), fun _ q => by simp at q, fun _ q => by simp at q, fun _ _ => own', fun q0 => HI.out.p40 (by simpa using q0), fun q0 => HI.out.p41 (by simpa using q0), fun q0 => HI.out.p42 (by simpa using q0), fun q0 => by simp [F11.out] at q0, fun q0 => HI.out.q12 (by simpa using q0)⟩⟩
            · have z12 := hcl 12 _ rfl
              simp only [Region.binds, List.mem_cons, List.not_mem_nil, or_false, forall_eq_or_imp, forall_eq, forall_const] at z12
              have f12 : d 12 = false := by
                cases hz : d 12 with
                | false => rfl
                | true =>
                  have hz' := z12 hz
                  simp [hd] at hz'
              clear z12
              obtain rfl := I.q3 f12
              have F12 := Lib.hid f12
              clear f12
              have HI := Lib.hid I
              have HK := Lib.hid hK
              have HD := Lib.hid hd
              have HDP := Lib.hid hdep
              clear I hK hd hdep hi hin hcl
              go_simp
              exact HK.out _ _ ⟨g, _, _, _, _, _, _, _, _, _, _, _, _, _, rfl, ⟨HI.out.b, fun q0 => HI.out.q3 (by simpa using q0), fun q0 q1 => HI.out.o32 (by simpa using q0) (by simpa using q1), fun q0 q1 q2 => HI.out.n32 (by simpa using q0) (by simpa using q1) (by simpa using q2), fun q0 => HI.out.p33 (by simpa using q0), fun q0 => HI.out.p34 (by simpa using q0), fun q0 => HI.out.p35 (by simpa using q0), fun q0 q1 => HI.out.o36 (by simpa using q0) (by simpa using q1), fun q0 q1 q2 => HI.out.n36 (by simpa using q0) (by simpa using q1) (by simpa using q2), fun q0 => HI.out.p37 (by simpa using q0), fun q0 q1 => HI.out.p38 (by simpa using q0) (by simpa using q1), fun q0 q1 => HI.out.c38 (by simpa using q0) (by simpa using q1), fun q0 q1 => HI.out.o39 (by simpa using q0) (by simpa using q1), fun _ => rfl, fun q0 => HI.out.p41 (by simpa using q0), fun q0 => HI.out.p42 (by simpa using q0), fun q0 => HI.out.o43 (by simpa using q0), fun q0 => HI.out.q12 (by simpa using q0)⟩⟩
            · have HI := Lib.hid I
              have HK := Lib.hid hK
              have HD := Lib.hid hd
              have HDP := Lib.hid hdep
              clear I hK hd hdep hi hin hcl
              go_simp
              exact HK.out _ _ ⟨g, _, _, _, _, _, _, _, _, _, _, _, _, _, rfl, ⟨HI.out.b, fun q0 => HI.out.q3 (by simpa using q0), fun q0 q1 => HI.out.o32 (by simpa using q0) (by simpa using q1), fun q0 q1 q2 => HI.out.n32 (by simpa using q0) (by simpa using q1) (by simpa using q2), fun q0 => HI.out.p33 (by simpa using q0), fun q0 => HI.out.p34 (by simpa using q0), fun q0 => HI.out.p35 (by simpa using q0), fun q0 q1 => HI.out.o36 (by simpa using q0) (by simpa using q1), fun q0 q1 q2 => HI.out.n36 (by simpa using q0) (by simpa using q1) (by simpa using q2), fun q0 => HI.out.p37 (by simpa using q0), fun q0 q1 => HI.out.p38 (by simpa using q0) (by simpa using q1), fun q0 q1 => HI.out.c38 (by simpa using q0) (by simpa using q1), fun q0 q1 => HI.out.o39 (by simpa using q0) (by simpa using q1), fun q0 => HI.out.p40 (by simpa using q0), fun _ => rfl, fun q0 => HI.out.p42 (by simpa using q0), fun q0 => HI.out.o43 (by simpa using q0), fun q0 => HI.out.q12 (by simpa using q0)⟩⟩
            · obtain rfl := I.p40 hdep.1
              obtain rfl := I.p41 hdep.2
              have hs2 := HS2.out
              have HI := Lib.hid I
              have HK := Lib.hid hK
              have HD := Lib.hid hd
              have HDP := Lib.hid hdep
              clear I hK hd hdep hi hin hcl
              go_simp
              exact HK.out _ _ ⟨g, _, _, _, _, _, _, _, _, _, _, _, _, _, rfl, ⟨HI.out.b, fun q0 => HI.out.q3 (by simpa using q0), fun q0 q1 => HI.out.o32 (by simpa using q0) (by simpa using q1), fun q0 q1 q2 => HI.out.n32 (by simpa using q0) (by simpa using q1) (by simpa using q2), fun q0 => HI.out.p33 (by simpa using q0), fun q0 => HI.out.p34 (by simpa using q0), fun q0 => HI.out.p35 (by simpa using q0), fun q0 q1 => HI.out.o36 (by simpa using q0) (by simpa using q1), fun q0 q1 q2 => HI.out.n36 (by simpa using q0) (by simpa using q1) (by simpa using q2), fun q0 => HI.out.p37 (by simpa using q0), fun q0 q1 => HI.out.p38 (by simpa using q0) (by simpa using q1), fun q0 q1 => HI.out.c38 (by simpa using q0) (by simpa using q1), fun q0 q1 => HI.out.o39 (by simpa using q0) (by simpa using q1), fun q0 => HI.out.p40 (by simpa using q0), fun q0 => HI.out.p41 (by simpa using q0), fun _ => rfl, fun q0 => HI.out.o43 (by simpa using q0), fun q0 => HI.out.q12 (by simpa using q0)⟩⟩
            · have z12 := hcl 12 _ rfl
              simp only [Region.binds, List.mem_cons, List.not_mem_nil, or_false, forall_eq_or_imp, forall_eq, forall_const] at z12
              have f12 : d 12 = false := by
                cases hz : d 12 with
                | false => rfl
                | true =>
                  have hz' := z12 hz
                  simp [hd] at hz'
              clear z12
              obtain rfl := I.p42 hdep.2.1
              have z7 := hcl 7 _ rfl hdep.1
              simp only [Region.binds, List.mem_cons, List.not_mem_nil, or_false, forall_eq_or_imp, forall_eq, forall_const] at z7
              have Z7 := Lib.hid z7
              clear z7
              have F12 := Lib.hid f12
              clear f12
              have HI := Lib.hid I
              have HK := Lib.hid hK
              have HD := Lib.hid hd
              have HDP := Lib.hid hdep
              clear I hK hd hdep hi hin hcl
              refine step_app0 elInts ⟨_, elInts.ty, fun k h => by cases h⟩ (.tmp 39) (.tmp 42) rfl (B := w3.heap.size) rfl rfl (HI.out.o39 HDP.out.1 HD.out) (Src.of_rd (HR2.out.later HI.out.b) (by simp; omega)) (ones _) (by simp only [maxLen]; omega) (by omega) HI.out.b.size fun v' w' own' grow' blk' => ?_
              have hbg := HI.out.b.grown grow' HI.out.b.size (fun k hk => ((HI.out.o39 HDP.out.1 HD.out).lt k hk).1)
              exact HK.out _ _ ⟨g, _, _, _, _, _, _, _, _, _, _, _, _, v', rfl, ⟨hbg, fun q0 => HI.out.q3 (by simpa using q0), fun _ q => by simp [Z7.out.1] at q, fun _ q _ => by simp [Z7.out.1] at q, fun q0 => HI.out.p33 (by simpa using q0), fun q0 => HI.out.p34 (by simpa using q0), fun q0 => HI.out.p35 (by simpa using q0), fun _ q => by simp [HDP.out.1] at q, fun _ q _ => by simp [HDP.out.1] at q, fun q0 => HI.out.p37 (by simpa using q0), fun _ q => by simp [HDP.out.1] at q, fun _ q => by simp [HDP.out.1] at q, fun _ q => by simp at q, fun q0 => HI.out.p40 (by simpa using q0), fun q0 => HI.out.p41 (by simpa using q0), fun q0 => HI.out.p42 (by simpa using q0), fun _ => own', fun q => by simp [F12.out] at q⟩⟩
            · have HI := Lib.hid I
              have HK := Lib.hid hK
              have HD := Lib.hid hd
              have HDP := Lib.hid hdep
              clear I hK hd hdep hi hin hcl
              go_simp
              exact HK.out _ _ ⟨g, _, _, _, _, _, _, _, _, _, _, _, _, _, rfl, ⟨HI.out.b, fun q => by simp at q, fun q0 q1 => HI.out.o32 (by simpa using q0) (by simpa using q1), fun q0 q1 q2 => HI.out.n32 (by simpa using q0) (by simpa using q1) (by simpa using q2), fun q0 => HI.out.p33 (by simpa using q0), fun q0 => HI.out.p34 (by simpa using q0), fun q0 => HI.out.p35 (by simpa using q0), fun q0 q1 => HI.out.o36 (by simpa using q0) (by simpa using q1), fun q0 q1 q2 => HI.out.n36 (by simpa using q0) (by simpa using q1) (by simpa using q2), fun q0 => HI.out.p37 (by simpa using q0), fun q0 q1 => HI.out.p38 (by simpa using q0) (by simpa using q1), fun q0 q1 => HI.out.c38 (by simpa using q0) (by simpa using q1), fun q0 q1 => HI.out.o39 (by simpa using q0) (by simpa using q1), fun q0 => HI.out.p40 (by simpa using q0), fun q0 => HI.out.p41 (by simpa using q0), fun q0 => HI.out.p42 (by simpa using q0), fun q0 => HI.out.o43 (by simpa using q0), fun _ => rfl⟩⟩
          case yfin =>
            intro d act wx hI hall
            obtain ⟨g, s3, s32, s33, s34, s35, s36, s37, s38, s39, s40, s41, s42, s43, rfl, I⟩ := hI
            obtain rfl := I.q12 (hall 12 (by decide))
            have hown := I.o43 (hall 11 (by decide))
            have hbx := I.b
            clear I hall
            have hrd2 : Rd wx s3 (k + 1) ((isortL (ltC (cmpAt l)) (upto (k + 1))).map ic) := by
              have := Rd.of_own hown
              rw [show jj + 1 + (k - jj) = k + 1 by omega] at this
              rw [HFIN.out]
              simpa using this
            have hrd2 := Lib.hid hrd2
            have hb5 := Lib.hid (below_then hbw.out (below_then hb4.out hbx))
            clear hown hbx
            go_wp2_with fail
            go_roundw
            case rel => exact ⟨k + 1, by omega, by go_num, hrd2, hb5⟩
            case measure => simp [intOf]; omega
    · have hkn : k = n := by omega
      subst hkn
      have hfin : Rd wr (.slice oa k oc) k ((orderL l).map ic) := by
        unfold orderL
        rw [HLN.out]; exact hrd.out
      have HF := Lib.hid hfin
      clear hfin hrd
      go_wp2_with fail
      go_ret
      exact ⟨_, rfl, HF.out, hbw.out⟩
end Go.Proofs.YtnolbabpkhdpmaaGreat
