/-
  Layer 24 (zset): an item of another row put to a bag. (printed by tools/gen_ze.py)
-/
import Derived.Test.YtgmemdhbnnhifaaZD
import Derived.Test.YtgmemdhbnnhifaaRI
namespace Go.Proofs.Ytgmemdhbnnhifaa
open Go.RowKit Go.Sort Go.BigFrame

def newI (x : It) : It := ⟨x.ra, x.rn, x.rc, x.many, none, 0, 0, x.row⟩

structure PutR (B pb q : Nat) (v0 V : Value) (nn : Nat) (cs : List Value) (x : It) (w2 : World) (d : Nat → Bool) (g : Nat) (gg : Nat) (cc : Nat) (s40 s41 s42 s43 s44 s45 s46 s47 s48 s49 s50 s51 s52 s53 : Value) (wx : World) : Prop where
  b : But (fun k => k = pb ∨ V.ownBlock = some k) w2 wx
  be : d 11 = false → Below w2.heap.size w2 wx
  p40 : d 0 = true → s40 = .pointer (some ⟨pb, 0, none⟩)
  p41 : d 1 = true → s41 = .pointer (some ⟨pb, 0, none⟩)
  p42 : d 2 = true → s42 = .pointer (some ⟨pb, 0, none⟩)
  p43 : d 3 = true → s43 = .pointer (some ⟨pb, 1, none⟩)
  p44 : d 4 = true → s44 = V
  p45 : d 5 = true → s45 = .pointer (some ⟨q, 0, none⟩)
  p46 : d 6 = true → s46 = .slice x.ra x.rn x.rc
  p47 : d 7 = true → s47 = .pointer (some ⟨q, 1, none⟩)
  p48 : d 8 = true → s48 = .int .i64 x.many
  p49 : d 9 = true → s49 = .agg #[.slice x.ra x.rn x.rc, .int .i64 x.many, .slice none 0 0]
  p50 : d 10 = true → d 11 = false → s50 = .slice (some ⟨g, 0, none⟩) 1 1
  c50 : d 10 = true → d 11 = false → Rd wx (.slice (some ⟨g, 0, none⟩) 1 1) 1 [.slice x.ra x.rn x.rc, .int .i64 x.many, .slice none 0 0]
  p51 : d 11 = true → s51 = .slice (some ⟨gg, 0, none⟩) (nn + 1) cc
  o51 : d 11 = true → d 14 = false → wx.ownsRow B 39 3 (.slice (some ⟨gg, 0, none⟩) (nn + 1) cc) (nn + 1) (cs ++ [.slice x.ra x.rn x.rc, .int .i64 x.many, .slice none 0 0])
  h51 : d 11 = true → d 14 = false → wx.heap[pb]? = some (.cells #[v0, V] 47 (0, 0))
  k51 : d 11 = true → ∀ k, gg = k → V.ownBlock = some k ∨ w2.heap.size ≤ k
  p52 : d 12 = true → s52 = .pointer (some ⟨pb, 0, none⟩)
  p53 : d 13 = true → s53 = .pointer (some ⟨pb, 1, none⟩)
  f0 : d 14 = true → wx.heap[pb]? = some (.cells #[v0, .slice (some ⟨gg, 0, none⟩) (nn + 1) cc] 47 (0, 0))
  f1 : d 14 = true → wx.ownsRow B 39 3 (.slice (some ⟨gg, 0, none⟩) (nn + 1) cc) (nn + 1) (cs ++ [.slice x.ra x.rn x.rc, .int .i64 x.many, .slice none 0 0])

theorem bag_set {pb : Nat} {v0 v : Value} {w : World} (h : w.heap[pb]? = some (.cells #[v0, v] 47 (0, 0))) (v' : Value) : (w.setCell ⟨pb, 1, none⟩ v').heap[pb]? = some (.cells #[v0, v'] 47 (0, 0)) := by
  obtain ⟨hlt, hk⟩ := Array.getElem?_eq_some_iff.1 h
  show (w.heap.modify pb _)[pb]? = _
  rw [Array.getElem?_eq_getElem (by rw [Array.size_modify]; exact hlt), Array.getElem_modify_self, hk]
  rfl

theorem bag_own {pb B n : Nat} {v0 v u : Value} {xs : List Value} {w : World} (h : w.heap[pb]? = some (.cells #[v0, v] 47 (0, 0))) (ho : w.ownsRow B 39 3 u n xs) (v' : Value) : (w.setCell ⟨pb, 1, none⟩ v').ownsRow B 39 3 u n xs := by
  refine own_but ho ((But.refl (fun k => k = pb) w).set rfl _) ?_
  intro k hk e
  subst e
  rcases ho.2 with ⟨rfl, _⟩ | ⟨g, cap, cur, rfl, _, hgb, _⟩
  · simp [Value.ownBlock] at hk
  · obtain rfl : g = k := by simpa [Value.ownBlock] using hk
    have := h.symm.trans hgb
    simp at this


set_option maxRecDepth 100000 in
set_option maxHeartbeats 2000000 in
theorem put_next (B pb : Nat) (v0 v : Value) (l0 : List It) (y : It) (x : It) (w : World) (h : BagAt B pb v0 v (l0 ++ [y]) w) (hBw : B ≤ w.heap.size) (hy : Vit w y) (hx : Vit w x) (he : y.row ≠ x.row) (hn : l0.length ≤ 1000000) :
    Calls Try.prog 33 #[.pointer (some ⟨pb, 0, none⟩), x.agg] w (PutPost B pb v0 v ((l0 ++ [y]) ++ [newI x]) w) := by
  obtain ⟨n, hln⟩ : ∃ n, l0.length = n := ⟨_, rfl⟩
  have hk : n < (l0 ++ [y]).length := by simp; omega
  have hyk : (l0 ++ [y])[n] = y := by simp [← hln]
  have hbx := below_alloc w (.cells #[.slice x.ra x.rn x.rc, .int .i64 x.many, .slice x.ba x.bn x.bc] 39)
  obtain ⟨w1, hw1⟩ : ∃ w1, w.alloc (.cells #[.slice x.ra x.rn x.rc, .int .i64 x.many, .slice x.ba x.bn x.bc] 39) = w1 := ⟨_, rfl⟩
  have e0 : w1.cell? ⟨w.heap.size, 0, none⟩ = some (.slice x.ra x.rn x.rc) := by rw [← hw1]; simp [go_sem]
  have e1 : w1.cell? ⟨w.heap.size, 1, none⟩ = some (.int .i64 x.many) := by rw [← hw1]; simp [go_sem]
  rw [hw1] at hbx
  have h1 := h.later hbx
  have hcell := h1.cell
  obtain ⟨g0, c, o, rfl, ho, hbg, hnc, hcm, x1, c0, c1, c2, hf, hg⟩ := own_it h1.2 n hk
  have hnn : (l0 ++ [y]).length = n + 1 := by simp [hln]
  rw [hyk] at c0 c1 c2
  rw [hnn] at x1 hcell hnc
  rw [hln] at hn
  have hs : sameR y.row x.row = false := decide_eq_false he
  have hq0 : (0 : Int) < ((n + 1 : Nat) : Int) := by omega
  have hq0n : 0 < n + 1 := by omega
  have hq1 : ((n + 1 : Nat) : Int) - 1 = (n : Int) := by omega
  have hq2 : (0 : Int) ≤ (n : Int) := by omega
  have hq3 : (n : Int) < ((n + 1 : Nat) : Int) := by omega
  have hj3 : n + 1 ≤ 1000001 := by omega
  have HB1 := Lib.hid h1
  have HW := Lib.hid hw1
  have HBX := Lib.hid hbx
  have HX := Lib.hid (hx.later hbx)
  have HY := Lib.hid (hy.later hbx)
  have HBS := Lib.hid hBw
  have HJ := Lib.hid hnn
  clear h h1 hx hy he hk hyk hw1 hbx hf ho hln hnn hbg hcm hBw
  unfold Vit at HX HY
  have cS : ∀ d os, Calls Try.prog 27 #[.slice y.ra y.rn y.rc, .slice x.ra x.rn x.rc] (grow (redrawn w1 d) os) fun e w'' => e = .returned (.bool false) ∧ ∃ p : Regrown, w'' = grow (redrawn w1 p.d) p.os := fun d os => Calls.regrown_of ((by rw [← hs]; exact sameR_any _ _ y.row x.row _ (HY.out.later (below_regrown w1 d os)) (HX.out.later (below_regrown w1 d os))))
  generalize hjj : n + 1 = jj at *
  have hcr : (w.alloc (.cells #[.slice x.ra x.rn x.rc, .int .i64 x.many, .slice x.ba x.bn x.bc] 39)).cell? ⟨pb, 1, none⟩ = some (.slice (some ⟨g0, 0, none⟩) jj c) := by rw [HW.out]; exact hcell
  go_enter Try.func33, Try.ntmps33
  go_wp2_with fail
  rw [HW.out]
  clear hcr
  have kc0 := cell_regrown c0
  have kc1 := cell_regrown c1
  have kc2 := cell_regrown c2
  have ke0 := cell_regrown e0
  have ke1 := cell_regrown e1
  have khcell := cell_regrown hcell
  refine wp_region_quiet_below (by kernel_rfl) (by kernel_rfl) ?_
  repeat (go_big_quiet_step (first | exact cS _ _))
  refine wpQuiet_nil ?_
  intro _ hw'
  obtain ⟨⟨dq, osq⟩, hw''⟩ := hw'
  subst hw''
  clear kc0 kc1 kc2 ke0 ke1 khcell cS
  have hb2 := below_regrown w1 dq osq
  generalize grow (redrawn w1 dq) osq = w2 at *
  replace c0 := cell_later hb2 c0
  replace c1 := cell_later hb2 c1
  replace c2 := cell_later hb2 c2
  replace e0 := cell_later hb2 e0
  replace e1 := cell_later hb2 e1
  replace hcell := cell_later hb2 hcell
  have HB2 := Lib.hid (HB1.out.later hb2)
  have HBW2 := Lib.hid (below_then HBX.out hb2)
  have HBS2 := Lib.hid (Nat.le_trans HBS.out HBW2.out.size)
  have how : w2.ownsRow B 39 3 (.slice (some ⟨g0, 0, none⟩) jj c) jj (itCs (l0 ++ [y])) := by have := HB2.out.2; unfold OwnI at this; rw [HJ.out] at this; exact this
  have HOV := Lib.hid how
  have hb0 : w2.heap[pb]? = some (.cells #[v0, (.slice (some ⟨g0, 0, none⟩) jj c)] 47 (0, 0)) := by have := HB2.out.1; rw [HJ.out] at this; exact this
  have HB0 := Lib.hid hb0
  clear hb0
  clear how hb2
  go_wp2_with fail
  refine wp_region_inv0 (by kernel_rfl) (by kernel_rfl) (by kernel_rfl) (fun d act wx => ∃ g gg cc s40 s41 s42 s43 s44 s45 s46 s47 s48 s49 s50 s51 s52 s53, act = ⟨((.pointer (some ⟨pb, 0, none⟩)) :: x.agg :: undef :: (.pointer (some ⟨w.heap.size, 0, none⟩)) :: (.int .i64 jj) :: (.pointer (some ⟨pb, 0, none⟩)) :: (.pointer (some ⟨pb, 0, none⟩)) :: (.pointer (some ⟨pb, 1, none⟩)) :: ((.slice (some ⟨g0, 0, none⟩) jj c)) :: (.int .i64 jj) :: (.int .i64 jj) :: (.bool true) :: (.bool true) :: (.pointer (some ⟨pb, 0, none⟩)) :: (.pointer (some ⟨pb, 0, none⟩)) :: (.pointer (some ⟨pb, 1, none⟩)) :: ((.slice (some ⟨g0, 0, none⟩) jj c)) :: (.int .i64 jj) :: (.int .i64 n) :: (.pointer (some ⟨g0, o, none⟩)) :: (.pointer (some ⟨g0, o, none⟩)) :: (.slice y.ra y.rn y.rc) :: (.pointer (some ⟨w.heap.size, 0, none⟩)) :: (.slice x.ra x.rn x.rc) :: (.bool false) :: (.bool false) :: undef :: undef :: undef :: undef :: undef :: undef :: undef :: undef :: undef :: undef :: undef :: undef :: undef :: undef :: s40 :: s41 :: s42 :: s43 :: s44 :: s45 :: s46 :: s47 :: s48 :: s49 :: s50 :: s51 :: s52 :: s53 :: []).toArray, []⟩ ∧ PutR B pb w.heap.size v0 ((.slice (some ⟨g0, 0, none⟩) jj c)) jj (itCs (l0 ++ [y])) x w2 d g gg cc s40 s41 s42 s43 s44 s45 s46 s47 s48 s49 s50 s51 s52 s53 wx) ?zinit ?zstep ?zfin
  case zinit => exact ⟨0, 0, 0, _, _, _, _, _, _, _, _, _, _, _, _, _, _, rfl, ⟨(But.refl _ _).drew, fun _ => (Below.refl _ _).drew, (fun q => nomatch q), (fun q => nomatch q), (fun q => nomatch q), (fun q => nomatch q), (fun q => nomatch q), (fun q => nomatch q), (fun q => nomatch q), (fun q => nomatch q), (fun q => nomatch q), (fun q => nomatch q), (fun q => nomatch q), (fun q => nomatch q), (fun q => nomatch q), (fun q => nomatch q), (fun q => nomatch q), (fun q => nomatch q), (fun q => nomatch q), (fun q => nomatch q), (fun q => nomatch q), (fun q => nomatch q)⟩⟩
  case zstep =>
    intro i hi o ho d hdep hd hcl act wx hI K hK
    obtain ⟨g, gg, cc, s40, s41, s42, s43, s44, s45, s46, s47, s48, s49, s50, s51, s52, s53, rfl, I⟩ := hI
    have hin : i < 15 := hi
    obtain rfl | rfl | rfl | rfl | rfl | rfl | rfl | rfl | rfl | rfl | rfl | rfl | rfl | rfl | rfl : i = 0 ∨ i = 1 ∨ i = 2 ∨ i = 3 ∨ i = 4 ∨ i = 5 ∨ i = 6 ∨ i = 7 ∨ i = 8 ∨ i = 9 ∨ i = 10 ∨ i = 11 ∨ i = 12 ∨ i = 13 ∨ i = 14 := by omega
    all_goals (cases ho; simp only [Region.binds, List.mem_cons, List.not_mem_nil, or_false, forall_eq_or_imp, forall_eq, forall_const] at hdep)
    · have HI := Lib.hid I
      have HK := Lib.hid hK
      have HD := Lib.hid hd
      have HDP := Lib.hid hdep
      clear I hK hd hdep hi hin hcl
      go_simp
      exact HK.out _ _ ⟨g, gg, cc, _, _, _, _, _, _, _, _, _, _, _, _, _, _, rfl, ⟨HI.out.b, fun q0 => HI.out.be (by simpa using q0), fun _ => rfl, fun q0 => HI.out.p41 (by simpa using q0), fun q0 => HI.out.p42 (by simpa using q0), fun q0 => HI.out.p43 (by simpa using q0), fun q0 => HI.out.p44 (by simpa using q0), fun q0 => HI.out.p45 (by simpa using q0), fun q0 => HI.out.p46 (by simpa using q0), fun q0 => HI.out.p47 (by simpa using q0), fun q0 => HI.out.p48 (by simpa using q0), fun q0 => HI.out.p49 (by simpa using q0), fun q0 q1 => HI.out.p50 (by simpa using q0) (by simpa using q1), fun q0 q1 => HI.out.c50 (by simpa using q0) (by simpa using q1), fun q0 => HI.out.p51 (by simpa using q0), fun q0 q1 => HI.out.o51 (by simpa using q0) (by simpa using q1), fun q0 q1 => HI.out.h51 (by simpa using q0) (by simpa using q1), fun q0 => HI.out.k51 (by simpa using q0), fun q0 => HI.out.p52 (by simpa using q0), fun q0 => HI.out.p53 (by simpa using q0), fun q0 => HI.out.f0 (by simpa using q0), fun q0 => HI.out.f1 (by simpa using q0)⟩⟩
    · have HI := Lib.hid I
      have HK := Lib.hid hK
      have HD := Lib.hid hd
      have HDP := Lib.hid hdep
      clear I hK hd hdep hi hin hcl
      go_simp
      exact HK.out _ _ ⟨g, gg, cc, _, _, _, _, _, _, _, _, _, _, _, _, _, _, rfl, ⟨HI.out.b, fun q0 => HI.out.be (by simpa using q0), fun q0 => HI.out.p40 (by simpa using q0), fun _ => rfl, fun q0 => HI.out.p42 (by simpa using q0), fun q0 => HI.out.p43 (by simpa using q0), fun q0 => HI.out.p44 (by simpa using q0), fun q0 => HI.out.p45 (by simpa using q0), fun q0 => HI.out.p46 (by simpa using q0), fun q0 => HI.out.p47 (by simpa using q0), fun q0 => HI.out.p48 (by simpa using q0), fun q0 => HI.out.p49 (by simpa using q0), fun q0 q1 => HI.out.p50 (by simpa using q0) (by simpa using q1), fun q0 q1 => HI.out.c50 (by simpa using q0) (by simpa using q1), fun q0 => HI.out.p51 (by simpa using q0), fun q0 q1 => HI.out.o51 (by simpa using q0) (by simpa using q1), fun q0 q1 => HI.out.h51 (by simpa using q0) (by simpa using q1), fun q0 => HI.out.k51 (by simpa using q0), fun q0 => HI.out.p52 (by simpa using q0), fun q0 => HI.out.p53 (by simpa using q0), fun q0 => HI.out.f0 (by simpa using q0), fun q0 => HI.out.f1 (by simpa using q0)⟩⟩
    · obtain rfl := I.p41 hdep
      have HI := Lib.hid I
      have HK := Lib.hid hK
      have HD := Lib.hid hd
      have HDP := Lib.hid hdep
      clear I hK hd hdep hi hin hcl
      go_simp
      exact HK.out _ _ ⟨g, gg, cc, _, _, _, _, _, _, _, _, _, _, _, _, _, _, rfl, ⟨HI.out.b, fun q0 => HI.out.be (by simpa using q0), fun q0 => HI.out.p40 (by simpa using q0), fun q0 => HI.out.p41 (by simpa using q0), fun _ => rfl, fun q0 => HI.out.p43 (by simpa using q0), fun q0 => HI.out.p44 (by simpa using q0), fun q0 => HI.out.p45 (by simpa using q0), fun q0 => HI.out.p46 (by simpa using q0), fun q0 => HI.out.p47 (by simpa using q0), fun q0 => HI.out.p48 (by simpa using q0), fun q0 => HI.out.p49 (by simpa using q0), fun q0 q1 => HI.out.p50 (by simpa using q0) (by simpa using q1), fun q0 q1 => HI.out.c50 (by simpa using q0) (by simpa using q1), fun q0 => HI.out.p51 (by simpa using q0), fun q0 q1 => HI.out.o51 (by simpa using q0) (by simpa using q1), fun q0 q1 => HI.out.h51 (by simpa using q0) (by simpa using q1), fun q0 => HI.out.k51 (by simpa using q0), fun q0 => HI.out.p52 (by simpa using q0), fun q0 => HI.out.p53 (by simpa using q0), fun q0 => HI.out.f0 (by simpa using q0), fun q0 => HI.out.f1 (by simpa using q0)⟩⟩
    · obtain rfl := I.p42 hdep
      have HI := Lib.hid I
      have HK := Lib.hid hK
      have HD := Lib.hid hd
      have HDP := Lib.hid hdep
      clear I hK hd hdep hi hin hcl
      go_simp
      exact HK.out _ _ ⟨g, gg, cc, _, _, _, _, _, _, _, _, _, _, _, _, _, _, rfl, ⟨HI.out.b, fun q0 => HI.out.be (by simpa using q0), fun q0 => HI.out.p40 (by simpa using q0), fun q0 => HI.out.p41 (by simpa using q0), fun q0 => HI.out.p42 (by simpa using q0), fun _ => rfl, fun q0 => HI.out.p44 (by simpa using q0), fun q0 => HI.out.p45 (by simpa using q0), fun q0 => HI.out.p46 (by simpa using q0), fun q0 => HI.out.p47 (by simpa using q0), fun q0 => HI.out.p48 (by simpa using q0), fun q0 => HI.out.p49 (by simpa using q0), fun q0 q1 => HI.out.p50 (by simpa using q0) (by simpa using q1), fun q0 q1 => HI.out.c50 (by simpa using q0) (by simpa using q1), fun q0 => HI.out.p51 (by simpa using q0), fun q0 q1 => HI.out.o51 (by simpa using q0) (by simpa using q1), fun q0 q1 => HI.out.h51 (by simpa using q0) (by simpa using q1), fun q0 => HI.out.k51 (by simpa using q0), fun q0 => HI.out.p52 (by simpa using q0), fun q0 => HI.out.p53 (by simpa using q0), fun q0 => HI.out.f0 (by simpa using q0), fun q0 => HI.out.f1 (by simpa using q0)⟩⟩
    · have z11 := hcl 11 _ rfl
      simp only [Region.binds, List.mem_cons, List.not_mem_nil, or_false, forall_eq_or_imp, forall_eq, forall_const] at z11
      have f11 : d 11 = false := by
        cases hz : d 11 with
        | false => rfl
        | true =>
          have hz' := z11 hz
          simp [hd] at hz'
      clear z11
      obtain rfl := I.p43 hdep
      have hcx := cell_later (I.be f11) hcell
      have F11 := Lib.hid f11
      clear f11
      have HI := Lib.hid I
      have HK := Lib.hid hK
      have HD := Lib.hid hd
      have HDP := Lib.hid hdep
      clear I hK hd hdep hi hin hcl
      go_simp
      exact HK.out _ _ ⟨g, gg, cc, _, _, _, _, _, _, _, _, _, _, _, _, _, _, rfl, ⟨HI.out.b, fun q0 => HI.out.be (by simpa using q0), fun q0 => HI.out.p40 (by simpa using q0), fun q0 => HI.out.p41 (by simpa using q0), fun q0 => HI.out.p42 (by simpa using q0), fun q0 => HI.out.p43 (by simpa using q0), fun _ => rfl, fun q0 => HI.out.p45 (by simpa using q0), fun q0 => HI.out.p46 (by simpa using q0), fun q0 => HI.out.p47 (by simpa using q0), fun q0 => HI.out.p48 (by simpa using q0), fun q0 => HI.out.p49 (by simpa using q0), fun q0 q1 => HI.out.p50 (by simpa using q0) (by simpa using q1), fun q0 q1 => HI.out.c50 (by simpa using q0) (by simpa using q1), fun q0 => HI.out.p51 (by simpa using q0), fun q0 q1 => HI.out.o51 (by simpa using q0) (by simpa using q1), fun q0 q1 => HI.out.h51 (by simpa using q0) (by simpa using q1), fun q0 => HI.out.k51 (by simpa using q0), fun q0 => HI.out.p52 (by simpa using q0), fun q0 => HI.out.p53 (by simpa using q0), fun q0 => HI.out.f0 (by simpa using q0), fun q0 => HI.out.f1 (by simpa using q0)⟩⟩
    · have HI := Lib.hid I
      have HK := Lib.hid hK
      have HD := Lib.hid hd
      have HDP := Lib.hid hdep
      clear I hK hd hdep hi hin hcl
      go_simp
      exact HK.out _ _ ⟨g, gg, cc, _, _, _, _, _, _, _, _, _, _, _, _, _, _, rfl, ⟨HI.out.b, fun q0 => HI.out.be (by simpa using q0), fun q0 => HI.out.p40 (by simpa using q0), fun q0 => HI.out.p41 (by simpa using q0), fun q0 => HI.out.p42 (by simpa using q0), fun q0 => HI.out.p43 (by simpa using q0), fun q0 => HI.out.p44 (by simpa using q0), fun _ => rfl, fun q0 => HI.out.p46 (by simpa using q0), fun q0 => HI.out.p47 (by simpa using q0), fun q0 => HI.out.p48 (by simpa using q0), fun q0 => HI.out.p49 (by simpa using q0), fun q0 q1 => HI.out.p50 (by simpa using q0) (by simpa using q1), fun q0 q1 => HI.out.c50 (by simpa using q0) (by simpa using q1), fun q0 => HI.out.p51 (by simpa using q0), fun q0 q1 => HI.out.o51 (by simpa using q0) (by simpa using q1), fun q0 q1 => HI.out.h51 (by simpa using q0) (by simpa using q1), fun q0 => HI.out.k51 (by simpa using q0), fun q0 => HI.out.p52 (by simpa using q0), fun q0 => HI.out.p53 (by simpa using q0), fun q0 => HI.out.f0 (by simpa using q0), fun q0 => HI.out.f1 (by simpa using q0)⟩⟩
    · have z9 := hcl 9 _ rfl
      simp only [Region.binds, List.mem_cons, List.not_mem_nil, or_false, forall_eq_or_imp, forall_eq, forall_const] at z9
      have f9 : d 9 = false := by
        cases hz : d 9 with
        | false => rfl
        | true =>
          have hz' := z9 hz
          simp [hd] at hz'
      clear z9
      have z10 := hcl 10 _ rfl
      simp only [Region.binds, List.mem_cons, List.not_mem_nil, or_false, forall_eq_or_imp, forall_eq, forall_const] at z10
      have f10 : d 10 = false := by
        cases hz : d 10 with
        | false => rfl
        | true =>
          have hz' := z10 hz
          simp [hd, f9] at hz'
      clear z10
      have z11 := hcl 11 _ rfl
      simp only [Region.binds, List.mem_cons, List.not_mem_nil, or_false, forall_eq_or_imp, forall_eq, forall_const] at z11
      have f11 : d 11 = false := by
        cases hz : d 11 with
        | false => rfl
        | true =>
          have hz' := z11 hz
          simp [hd, f9, f10] at hz'
      clear z11
      obtain rfl := I.p45 hdep
      have hcx := cell_later (I.be f11) e0
      have F9 := Lib.hid f9
      clear f9
      have F10 := Lib.hid f10
      clear f10
      have F11 := Lib.hid f11
      clear f11
      have HI := Lib.hid I
      have HK := Lib.hid hK
      have HD := Lib.hid hd
      have HDP := Lib.hid hdep
      clear I hK hd hdep hi hin hcl
      go_simp
      exact HK.out _ _ ⟨g, gg, cc, _, _, _, _, _, _, _, _, _, _, _, _, _, _, rfl, ⟨HI.out.b, fun q0 => HI.out.be (by simpa using q0), fun q0 => HI.out.p40 (by simpa using q0), fun q0 => HI.out.p41 (by simpa using q0), fun q0 => HI.out.p42 (by simpa using q0), fun q0 => HI.out.p43 (by simpa using q0), fun q0 => HI.out.p44 (by simpa using q0), fun q0 => HI.out.p45 (by simpa using q0), fun _ => rfl, fun q0 => HI.out.p47 (by simpa using q0), fun q0 => HI.out.p48 (by simpa using q0), fun q0 => HI.out.p49 (by simpa using q0), fun q0 q1 => HI.out.p50 (by simpa using q0) (by simpa using q1), fun q0 q1 => HI.out.c50 (by simpa using q0) (by simpa using q1), fun q0 => HI.out.p51 (by simpa using q0), fun q0 q1 => HI.out.o51 (by simpa using q0) (by simpa using q1), fun q0 q1 => HI.out.h51 (by simpa using q0) (by simpa using q1), fun q0 => HI.out.k51 (by simpa using q0), fun q0 => HI.out.p52 (by simpa using q0), fun q0 => HI.out.p53 (by simpa using q0), fun q0 => HI.out.f0 (by simpa using q0), fun q0 => HI.out.f1 (by simpa using q0)⟩⟩
    · have HI := Lib.hid I
      have HK := Lib.hid hK
      have HD := Lib.hid hd
      have HDP := Lib.hid hdep
      clear I hK hd hdep hi hin hcl
      go_simp
      exact HK.out _ _ ⟨g, gg, cc, _, _, _, _, _, _, _, _, _, _, _, _, _, _, rfl, ⟨HI.out.b, fun q0 => HI.out.be (by simpa using q0), fun q0 => HI.out.p40 (by simpa using q0), fun q0 => HI.out.p41 (by simpa using q0), fun q0 => HI.out.p42 (by simpa using q0), fun q0 => HI.out.p43 (by simpa using q0), fun q0 => HI.out.p44 (by simpa using q0), fun q0 => HI.out.p45 (by simpa using q0), fun q0 => HI.out.p46 (by simpa using q0), fun _ => rfl, fun q0 => HI.out.p48 (by simpa using q0), fun q0 => HI.out.p49 (by simpa using q0), fun q0 q1 => HI.out.p50 (by simpa using q0) (by simpa using q1), fun q0 q1 => HI.out.c50 (by simpa using q0) (by simpa using q1), fun q0 => HI.out.p51 (by simpa using q0), fun q0 q1 => HI.out.o51 (by simpa using q0) (by simpa using q1), fun q0 q1 => HI.out.h51 (by simpa using q0) (by simpa using q1), fun q0 => HI.out.k51 (by simpa using q0), fun q0 => HI.out.p52 (by simpa using q0), fun q0 => HI.out.p53 (by simpa using q0), fun q0 => HI.out.f0 (by simpa using q0), fun q0 => HI.out.f1 (by simpa using q0)⟩⟩
    · have z9 := hcl 9 _ rfl
      simp only [Region.binds, List.mem_cons, List.not_mem_nil, or_false, forall_eq_or_imp, forall_eq, forall_const] at z9
      have f9 : d 9 = false := by
        cases hz : d 9 with
        | false => rfl
        | true =>
          have hz' := z9 hz
          simp [hd] at hz'
      clear z9
      have z10 := hcl 10 _ rfl
      simp only [Region.binds, List.mem_cons, List.not_mem_nil, or_false, forall_eq_or_imp, forall_eq, forall_const] at z10
      have f10 : d 10 = false := by
        cases hz : d 10 with
        | false => rfl
        | true =>
          have hz' := z10 hz
          simp [hd, f9] at hz'
      clear z10
      have z11 := hcl 11 _ rfl
      simp only [Region.binds, List.mem_cons, List.not_mem_nil, or_false, forall_eq_or_imp, forall_eq, forall_const] at z11
      have f11 : d 11 = false := by
        cases hz : d 11 with
        | false => rfl
        | true =>
          have hz' := z11 hz
          simp [hd, f9, f10] at hz'
      clear z11
      obtain rfl := I.p47 hdep
      have hcx := cell_later (I.be f11) e1
      have F9 := Lib.hid f9
      clear f9
      have F10 := Lib.hid f10
      clear f10
      have F11 := Lib.hid f11
      clear f11
      have HI := Lib.hid I
      have HK := Lib.hid hK
      have HD := Lib.hid hd
      have HDP := Lib.hid hdep
      clear I hK hd hdep hi hin hcl
      go_simp
      exact HK.out _ _ ⟨g, gg, cc, _, _, _, _, _, _, _, _, _, _, _, _, _, _, rfl, ⟨HI.out.b, fun q0 => HI.out.be (by simpa using q0), fun q0 => HI.out.p40 (by simpa using q0), fun q0 => HI.out.p41 (by simpa using q0), fun q0 => HI.out.p42 (by simpa using q0), fun q0 => HI.out.p43 (by simpa using q0), fun q0 => HI.out.p44 (by simpa using q0), fun q0 => HI.out.p45 (by simpa using q0), fun q0 => HI.out.p46 (by simpa using q0), fun q0 => HI.out.p47 (by simpa using q0), fun _ => rfl, fun q0 => HI.out.p49 (by simpa using q0), fun q0 q1 => HI.out.p50 (by simpa using q0) (by simpa using q1), fun q0 q1 => HI.out.c50 (by simpa using q0) (by simpa using q1), fun q0 => HI.out.p51 (by simpa using q0), fun q0 q1 => HI.out.o51 (by simpa using q0) (by simpa using q1), fun q0 q1 => HI.out.h51 (by simpa using q0) (by simpa using q1), fun q0 => HI.out.k51 (by simpa using q0), fun q0 => HI.out.p52 (by simpa using q0), fun q0 => HI.out.p53 (by simpa using q0), fun q0 => HI.out.f0 (by simpa using q0), fun q0 => HI.out.f1 (by simpa using q0)⟩⟩
    · obtain rfl := I.p46 hdep.1
      obtain rfl := I.p48 hdep.2
      have HI := Lib.hid I
      have HK := Lib.hid hK
      have HD := Lib.hid hd
      have HDP := Lib.hid hdep
      clear I hK hd hdep hi hin hcl
      go_simp
      exact HK.out _ _ ⟨g, gg, cc, _, _, _, _, _, _, _, _, _, _, _, _, _, _, rfl, ⟨HI.out.b, fun q0 => HI.out.be (by simpa using q0), fun q0 => HI.out.p40 (by simpa using q0), fun q0 => HI.out.p41 (by simpa using q0), fun q0 => HI.out.p42 (by simpa using q0), fun q0 => HI.out.p43 (by simpa using q0), fun q0 => HI.out.p44 (by simpa using q0), fun q0 => HI.out.p45 (by simpa using q0), fun q0 => HI.out.p46 (by simpa using q0), fun q0 => HI.out.p47 (by simpa using q0), fun q0 => HI.out.p48 (by simpa using q0), fun _ => rfl, fun q0 q1 => HI.out.p50 (by simpa using q0) (by simpa using q1), fun q0 q1 => HI.out.c50 (by simpa using q0) (by simpa using q1), fun q0 => HI.out.p51 (by simpa using q0), fun q0 q1 => HI.out.o51 (by simpa using q0) (by simpa using q1), fun q0 q1 => HI.out.h51 (by simpa using q0) (by simpa using q1), fun q0 => HI.out.k51 (by simpa using q0), fun q0 => HI.out.p52 (by simpa using q0), fun q0 => HI.out.p53 (by simpa using q0), fun q0 => HI.out.f0 (by simpa using q0), fun q0 => HI.out.f1 (by simpa using q0)⟩⟩
    · have z11 := hcl 11 _ rfl
      simp only [Region.binds, List.mem_cons, List.not_mem_nil, or_false, forall_eq_or_imp, forall_eq, forall_const] at z11
      have f11 : d 11 = false := by
        cases hz : d 11 with
        | false => rfl
        | true =>
          have hz' := z11 hz
          simp [hd] at hz'
      clear z11
      have z14 := hcl 14 _ rfl
      simp only [Region.binds, List.mem_cons, List.not_mem_nil, or_false, forall_eq_or_imp, forall_eq, forall_const] at z14
      have f14 : d 14 = false := by
        cases hz : d 14 with
        | false => rfl
        | true =>
          have hz' := z14 hz
          simp [hd, f11] at hz'
      clear z14
      obtain rfl := I.p49 hdep
      have F11 := Lib.hid f11
      clear f11
      have F14 := Lib.hid f14
      clear f14
      have HI := Lib.hid I
      have HK := Lib.hid hK
      have HD := Lib.hid hd
      have HDP := Lib.hid hdep
      clear I hK hd hdep hi hin hcl
      go_simp
      have hb := below_alloc wx (.cells #[.slice x.ra x.rn x.rc, .int .i64 x.many, .slice none 0 0] 39)
      exact HK.out _ _ ⟨wx.heap.size, gg, cc, _, _, _, _, _, _, _, _, _, _, _, _, _, _, rfl, ⟨HI.out.b.alloc _, fun _ => below_then (HI.out.be F11.out) hb, fun q0 => HI.out.p40 (by simpa using q0), fun q0 => HI.out.p41 (by simpa using q0), fun q0 => HI.out.p42 (by simpa using q0), fun q0 => HI.out.p43 (by simpa using q0), fun q0 => HI.out.p44 (by simpa using q0), fun q0 => HI.out.p45 (by simpa using q0), fun q0 => HI.out.p46 (by simpa using q0), fun q0 => HI.out.p47 (by simpa using q0), fun q0 => HI.out.p48 (by simpa using q0), fun q0 => HI.out.p49 (by simpa using q0), fun _ _ => rfl, fun _ _ => rd_lit wx #[.slice x.ra x.rn x.rc, .int .i64 x.many, .slice none 0 0] 39 1 (by decide), fun q0 => HI.out.p51 (by simpa using q0), fun q0 => by simp [F11.out] at q0, fun q0 => by simp [F11.out] at q0, fun q0 => HI.out.k51 (by simpa using q0), fun q0 => HI.out.p52 (by simpa using q0), fun q0 => HI.out.p53 (by simpa using q0), fun q0 => by simp [F14.out] at q0, fun q0 => by simp [F14.out] at q0⟩⟩
    · have z14 := hcl 14 _ rfl
      simp only [Region.binds, List.mem_cons, List.not_mem_nil, or_false, forall_eq_or_imp, forall_eq, forall_const] at z14
      have f14 : d 14 = false := by
        cases hz : d 14 with
        | false => rfl
        | true =>
          have hz' := z14 hz
          simp [hd] at hz'
      clear z14
      obtain rfl := I.p44 hdep.1
      obtain rfl := I.p50 hdep.2 hd
      have F14 := Lib.hid f14
      clear f14
      have HI := Lib.hid I
      have HK := Lib.hid hK
      have HD := Lib.hid hd
      have HDP := Lib.hid hdep
      clear I hK hd hdep hi hin hcl
      refine step_app0 elIt ⟨_, elIt.ty, fun k h => by cases h⟩ (.tmp 44) (.tmp 50) rfl (B := B) rfl rfl (own_later HOV.out (HI.out.be HD.out)) (Src.of_rd (HI.out.c50 HDP.out.2 HD.out) rfl) (fun u hu => by simp only [List.mem_cons, List.not_mem_nil, or_false] at hu; rcases hu with rfl | rfl | rfl <;> rfl) (by simp only [maxLen]; omega) (by omega) (Nat.le_trans HBS2.out (HI.out.be HD.out).size) fun v' w' own' grow' blk' => ?_
      obtain ⟨gx, cx, rfl⟩ := ownsRow_succ own'
      have hbe := HI.out.be HD.out
      exact HK.out _ _ ⟨g, gx, cx, _, _, _, _, _, _, _, _, _, _, _, _, _, _, rfl, ⟨HI.out.b.trans (But.of_grown (S := fun k => k = pb ∨ Value.ownBlock ((.slice (some ⟨g0, 0, none⟩) jj c)) = some k) grow' fun k hk => .inr hk) (fun _ _ h => h), fun q => by simp at q, fun q0 => HI.out.p40 (by simpa using q0), fun q0 => HI.out.p41 (by simpa using q0), fun q0 => HI.out.p42 (by simpa using q0), fun q0 => HI.out.p43 (by simpa using q0), fun q0 => HI.out.p44 (by simpa using q0), fun q0 => HI.out.p45 (by simpa using q0), fun q0 => HI.out.p46 (by simpa using q0), fun q0 => HI.out.p47 (by simpa using q0), fun q0 => HI.out.p48 (by simpa using q0), fun q0 => HI.out.p49 (by simpa using q0), fun _ q => by simp at q, fun _ q => by simp at q, fun _ => rfl, fun _ _ => own', fun _ _ => (grow'.block pb (Nat.lt_of_lt_of_le HB2.out.lt hbe.size) (fun e => HB2.out.not_row e.symm)).trans ((hbe.block pb HB2.out.lt).trans HB0.out), fun _ k hk => blk'.elim (fun e => .inl (e.symm.trans (congrArg some hk))) (fun e => .inr (by have e2 : gx = wx.heap.size := Option.some.inj e; rw [← hk, e2]; exact hbe.size)), fun q0 => HI.out.p52 (by simpa using q0), fun q0 => HI.out.p53 (by simpa using q0), fun q0 => by simp [F14.out] at q0, fun q0 => by simp [F14.out] at q0⟩⟩
    · obtain rfl := I.p40 hdep.1
      have HI := Lib.hid I
      have HK := Lib.hid hK
      have HD := Lib.hid hd
      have HDP := Lib.hid hdep
      clear I hK hd hdep hi hin hcl
      go_simp
      exact HK.out _ _ ⟨g, gg, cc, _, _, _, _, _, _, _, _, _, _, _, _, _, _, rfl, ⟨HI.out.b, fun q0 => HI.out.be (by simpa using q0), fun q0 => HI.out.p40 (by simpa using q0), fun q0 => HI.out.p41 (by simpa using q0), fun q0 => HI.out.p42 (by simpa using q0), fun q0 => HI.out.p43 (by simpa using q0), fun q0 => HI.out.p44 (by simpa using q0), fun q0 => HI.out.p45 (by simpa using q0), fun q0 => HI.out.p46 (by simpa using q0), fun q0 => HI.out.p47 (by simpa using q0), fun q0 => HI.out.p48 (by simpa using q0), fun q0 => HI.out.p49 (by simpa using q0), fun q0 q1 => HI.out.p50 (by simpa using q0) (by simpa using q1), fun q0 q1 => HI.out.c50 (by simpa using q0) (by simpa using q1), fun q0 => HI.out.p51 (by simpa using q0), fun q0 q1 => HI.out.o51 (by simpa using q0) (by simpa using q1), fun q0 q1 => HI.out.h51 (by simpa using q0) (by simpa using q1), fun q0 => HI.out.k51 (by simpa using q0), fun _ => rfl, fun q0 => HI.out.p53 (by simpa using q0), fun q0 => HI.out.f0 (by simpa using q0), fun q0 => HI.out.f1 (by simpa using q0)⟩⟩
    · obtain rfl := I.p52 hdep.1
      have HI := Lib.hid I
      have HK := Lib.hid hK
      have HD := Lib.hid hd
      have HDP := Lib.hid hdep
      clear I hK hd hdep hi hin hcl
      go_simp
      exact HK.out _ _ ⟨g, gg, cc, _, _, _, _, _, _, _, _, _, _, _, _, _, _, rfl, ⟨HI.out.b, fun q0 => HI.out.be (by simpa using q0), fun q0 => HI.out.p40 (by simpa using q0), fun q0 => HI.out.p41 (by simpa using q0), fun q0 => HI.out.p42 (by simpa using q0), fun q0 => HI.out.p43 (by simpa using q0), fun q0 => HI.out.p44 (by simpa using q0), fun q0 => HI.out.p45 (by simpa using q0), fun q0 => HI.out.p46 (by simpa using q0), fun q0 => HI.out.p47 (by simpa using q0), fun q0 => HI.out.p48 (by simpa using q0), fun q0 => HI.out.p49 (by simpa using q0), fun q0 q1 => HI.out.p50 (by simpa using q0) (by simpa using q1), fun q0 q1 => HI.out.c50 (by simpa using q0) (by simpa using q1), fun q0 => HI.out.p51 (by simpa using q0), fun q0 q1 => HI.out.o51 (by simpa using q0) (by simpa using q1), fun q0 q1 => HI.out.h51 (by simpa using q0) (by simpa using q1), fun q0 => HI.out.k51 (by simpa using q0), fun q0 => HI.out.p52 (by simpa using q0), fun _ => rfl, fun q0 => HI.out.f0 (by simpa using q0), fun q0 => HI.out.f1 (by simpa using q0)⟩⟩
    · obtain rfl := I.p53 hdep.1
      obtain rfl := I.p51 hdep.2.1
      have hh := I.h51 hdep.2.1 hd
      have hcx : wx.cell? ⟨pb, 1, none⟩ = some ((.slice (some ⟨g0, 0, none⟩) jj c)) := by simp [World.cell?, hh]
      have hfx : wx.frozen? ⟨pb, 1, none⟩ = false := by simp [World.frozen?, hh]
      have HH := Lib.hid hh
      clear hh
      have HI := Lib.hid I
      have HK := Lib.hid hK
      have HD := Lib.hid hd
      have HDP := Lib.hid hdep
      clear I hK hd hdep hi hin hcl
      go_simp
      exact HK.out _ _ ⟨g, gg, cc, _, _, _, _, _, _, _, _, _, _, _, _, _, _, rfl, ⟨HI.out.b.set (.inl rfl) _, fun q => by simp [HDP.out.2.1] at q, fun q0 => HI.out.p40 (by simpa using q0), fun q0 => HI.out.p41 (by simpa using q0), fun q0 => HI.out.p42 (by simpa using q0), fun q0 => HI.out.p43 (by simpa using q0), fun q0 => HI.out.p44 (by simpa using q0), fun q0 => HI.out.p45 (by simpa using q0), fun q0 => HI.out.p46 (by simpa using q0), fun q0 => HI.out.p47 (by simpa using q0), fun q0 => HI.out.p48 (by simpa using q0), fun q0 => HI.out.p49 (by simpa using q0), fun _ q => by simp [HDP.out.2.1] at q, fun _ q => by simp [HDP.out.2.1] at q, fun q0 => HI.out.p51 (by simpa using q0), fun _ q => by simp at q, fun _ q => by simp at q, fun q0 => HI.out.k51 (by simpa using q0), fun q0 => HI.out.p52 (by simpa using q0), fun q0 => HI.out.p53 (by simpa using q0), fun _ => bag_set HH.out _, fun _ => bag_own HH.out (HI.out.o51 HDP.out.2.1 HD.out) _⟩⟩
  case zfin =>
    intro d act wx hI hall
    obtain ⟨g, gg, cc, s40, s41, s42, s43, s44, s45, s46, s47, s48, s49, s50, s51, s52, s53, rfl, I⟩ := hI
    obtain rfl := I.p51 (hall 11 (by decide))
    have hF0 := I.f0 (hall 14 (by decide))
    have hF1 := I.f1 (hall 14 (by decide))
    have hFb := I.b
    have hFk := I.k51 (hall 11 (by decide))
    clear I hall
    have HF0 := Lib.hid hF0
    have HF1 := Lib.hid hF1
    have HFb := Lib.hid hFb
    have HFk := Lib.hid hFk
    clear hF0 hF1 hFb hFk
    go_wp2_with fail
    refine bodyPost_ret (v := .tuple #[]) (by simp [results, Try.results33, go_sem]) rfl ⟨rfl, .slice (some ⟨gg, 0, none⟩) (jj + 1) cc, ⟨HF0.out, ?_⟩, ?_, fun k hk => ?_⟩
    · show World.ownsRow _ B _ 3 _ (List.length _) _
      rw [itCs_app, show ((l0 ++ [y]) ++ [newI x]).length = jj + 1 by rw [List.length_append, HJ.out]; rfl]
      exact HF1.out
    · exact (But.of_below HBW2.out).trans HFb.out (fun _ _ h => h)
    · rcases HFk.out k (by simpa [Value.ownBlock] using hk) with h | h
      · exact .inl (h)
      · exact .inr (Nat.le_trans HBW2.out.size h)

set_option maxRecDepth 100000 in
set_option maxHeartbeats 2000000 in
theorem put_first (B pb : Nat) (v0 v : Value)  (x : It) (w : World) (h : BagAt B pb v0 v [] w) (hBw : B ≤ w.heap.size)  :
    Calls Try.prog 33 #[.pointer (some ⟨pb, 0, none⟩), x.agg] w (PutPost B pb v0 v ([] ++ [newI x]) w) := by
  have hbx := below_alloc w (.cells #[.slice x.ra x.rn x.rc, .int .i64 x.many, .slice x.ba x.bn x.bc] 39)
  obtain ⟨w1, hw1⟩ : ∃ w1, w.alloc (.cells #[.slice x.ra x.rn x.rc, .int .i64 x.many, .slice x.ba x.bn x.bc] 39) = w1 := ⟨_, rfl⟩
  have e0 : w1.cell? ⟨w.heap.size, 0, none⟩ = some (.slice x.ra x.rn x.rc) := by rw [← hw1]; simp [go_sem]
  have e1 : w1.cell? ⟨w.heap.size, 1, none⟩ = some (.int .i64 x.many) := by rw [← hw1]; simp [go_sem]
  rw [hw1] at hbx
  have h1 := h.later hbx
  have hcell := h1.cell
  obtain ⟨ao, c, rfl, hnc, hcm, _, _⟩ := Rd.of_own h1.2
  have HB1 := Lib.hid h1
  have HW := Lib.hid hw1
  have HBX := Lib.hid hbx
  have HBS := Lib.hid hBw
  have hq0 : ¬ (0 : Int) < 0 := by omega
  have hcell : w1.cell? ⟨pb, 1, none⟩ = some (.slice ao 0 c) := hcell
  clear h h1 hw1 hbx hcm hBw hnc
  have hcr : (w.alloc (.cells #[.slice x.ra x.rn x.rc, .int .i64 x.many, .slice x.ba x.bn x.bc] 39)).cell? ⟨pb, 1, none⟩ = some (.slice ao 0 c) := by rw [HW.out]; exact hcell
  go_enter Try.func33, Try.ntmps33
  go_wp2_with fail
  rw [HW.out]
  clear hcr
  have ke0 := cell_regrown e0
  have ke1 := cell_regrown e1
  have khcell := cell_regrown hcell
  refine wp_region_quiet_below (by kernel_rfl) (by kernel_rfl) ?_
  repeat (go_big_quiet_step (first | fail))
  refine wpQuiet_nil ?_
  intro _ hw'
  obtain ⟨⟨dq, osq⟩, hw''⟩ := hw'
  subst hw''
  clear ke0 ke1 khcell
  have hb2 := below_regrown w1 dq osq
  generalize grow (redrawn w1 dq) osq = w2 at *
  replace e0 := cell_later hb2 e0
  replace e1 := cell_later hb2 e1
  replace hcell := cell_later hb2 hcell
  have HB2 := Lib.hid (HB1.out.later hb2)
  have HBW2 := Lib.hid (below_then HBX.out hb2)
  have HBS2 := Lib.hid (Nat.le_trans HBS.out HBW2.out.size)
  have how : w2.ownsRow B 39 3 (.slice ao 0 c) 0 (itCs []) := by have := HB2.out.2; unfold OwnI at this; exact this
  have HOV := Lib.hid how
  have hb0 : w2.heap[pb]? = some (.cells #[v0, (.slice ao 0 c)] 47 (0, 0)) := by have := HB2.out.1; exact this
  have HB0 := Lib.hid hb0
  clear hb0
  clear how hb2
  go_wp2_with fail
  refine wp_region_inv0 (by kernel_rfl) (by kernel_rfl) (by kernel_rfl) (fun d act wx => ∃ g gg cc s40 s41 s42 s43 s44 s45 s46 s47 s48 s49 s50 s51 s52 s53, act = ⟨((.pointer (some ⟨pb, 0, none⟩)) :: x.agg :: undef :: (.pointer (some ⟨w.heap.size, 0, none⟩)) :: (.int .i64 0) :: (.pointer (some ⟨pb, 0, none⟩)) :: (.pointer (some ⟨pb, 0, none⟩)) :: (.pointer (some ⟨pb, 1, none⟩)) :: ((.slice ao 0 c)) :: (.int .i64 0) :: (.int .i64 0) :: (.bool false) :: (.bool false) :: undef :: undef :: undef :: undef :: undef :: undef :: undef :: undef :: undef :: undef :: undef :: undef :: (.bool false) :: undef :: undef :: undef :: undef :: undef :: undef :: undef :: undef :: undef :: undef :: undef :: undef :: undef :: undef :: s40 :: s41 :: s42 :: s43 :: s44 :: s45 :: s46 :: s47 :: s48 :: s49 :: s50 :: s51 :: s52 :: s53 :: []).toArray, []⟩ ∧ PutR B pb w.heap.size v0 ((.slice ao 0 c)) 0 (itCs []) x w2 d g gg cc s40 s41 s42 s43 s44 s45 s46 s47 s48 s49 s50 s51 s52 s53 wx) ?zinit ?zstep ?zfin
  case zinit => exact ⟨0, 0, 0, _, _, _, _, _, _, _, _, _, _, _, _, _, _, rfl, ⟨(But.refl _ _).drew, fun _ => (Below.refl _ _).drew, (fun q => nomatch q), (fun q => nomatch q), (fun q => nomatch q), (fun q => nomatch q), (fun q => nomatch q), (fun q => nomatch q), (fun q => nomatch q), (fun q => nomatch q), (fun q => nomatch q), (fun q => nomatch q), (fun q => nomatch q), (fun q => nomatch q), (fun q => nomatch q), (fun q => nomatch q), (fun q => nomatch q), (fun q => nomatch q), (fun q => nomatch q), (fun q => nomatch q), (fun q => nomatch q), (fun q => nomatch q)⟩⟩
  case zstep =>
    intro i hi o ho d hdep hd hcl act wx hI K hK
    obtain ⟨g, gg, cc, s40, s41, s42, s43, s44, s45, s46, s47, s48, s49, s50, s51, s52, s53, rfl, I⟩ := hI
    have hin : i < 15 := hi
    obtain rfl | rfl | rfl | rfl | rfl | rfl | rfl | rfl | rfl | rfl | rfl | rfl | rfl | rfl | rfl : i = 0 ∨ i = 1 ∨ i = 2 ∨ i = 3 ∨ i = 4 ∨ i = 5 ∨ i = 6 ∨ i = 7 ∨ i = 8 ∨ i = 9 ∨ i = 10 ∨ i = 11 ∨ i = 12 ∨ i = 13 ∨ i = 14 := by omega
    all_goals (cases ho; simp only [Region.binds, List.mem_cons, List.not_mem_nil, or_false, forall_eq_or_imp, forall_eq, forall_const] at hdep)
    · have HI := Lib.hid I
      have HK := Lib.hid hK
      have HD := Lib.hid hd
      have HDP := Lib.hid hdep
      clear I hK hd hdep hi hin hcl
      go_simp
      exact HK.out _ _ ⟨g, gg, cc, _, _, _, _, _, _, _, _, _, _, _, _, _, _, rfl, ⟨HI.out.b, fun q0 => HI.out.be (by simpa using q0), fun _ => rfl, fun q0 => HI.out.p41 (by simpa using q0), fun q0 => HI.out.p42 (by simpa using q0), fun q0 => HI.out.p43 (by simpa using q0), fun q0 => HI.out.p44 (by simpa using q0), fun q0 => HI.out.p45 (by simpa using q0), fun q0 => HI.out.p46 (by simpa using q0), fun q0 => HI.out.p47 (by simpa using q0), fun q0 => HI.out.p48 (by simpa using q0), fun q0 => HI.out.p49 (by simpa using q0), fun q0 q1 => HI.out.p50 (by simpa using q0) (by simpa using q1), fun q0 q1 => HI.out.c50 (by simpa using q0) (by simpa using q1), fun q0 => HI.out.p51 (by simpa using q0), fun q0 q1 => HI.out.o51 (by simpa using q0) (by simpa using q1), fun q0 q1 => HI.out.h51 (by simpa using q0) (by simpa using q1), fun q0 => HI.out.k51 (by simpa using q0), fun q0 => HI.out.p52 (by simpa using q0), fun q0 => HI.out.p53 (by simpa using q0), fun q0 => HI.out.f0 (by simpa using q0), fun q0 => HI.out.f1 (by simpa using q0)⟩⟩
    · have HI := Lib.hid I
      have HK := Lib.hid hK
      have HD := Lib.hid hd
      have HDP := Lib.hid hdep
      clear I hK hd hdep hi hin hcl
      go_simp
      exact HK.out _ _ ⟨g, gg, cc, _, _, _, _, _, _, _, _, _, _, _, _, _, _, rfl, ⟨HI.out.b, fun q0 => HI.out.be (by simpa using q0), fun q0 => HI.out.p40 (by simpa using q0), fun _ => rfl, fun q0 => HI.out.p42 (by simpa using q0), fun q0 => HI.out.p43 (by simpa using q0), fun q0 => HI.out.p44 (by simpa using q0), fun q0 => HI.out.p45 (by simpa using q0), fun q0 => HI.out.p46 (by simpa using q0), fun q0 => HI.out.p47 (by simpa using q0), fun q0 => HI.out.p48 (by simpa using q0), fun q0 => HI.out.p49 (by simpa using q0), fun q0 q1 => HI.out.p50 (by simpa using q0) (by simpa using q1), fun q0 q1 => HI.out.c50 (by simpa using q0) (by simpa using q1), fun q0 => HI.out.p51 (by simpa using q0), fun q0 q1 => HI.out.o51 (by simpa using q0) (by simpa using q1), fun q0 q1 => HI.out.h51 (by simpa using q0) (by simpa using q1), fun q0 => HI.out.k51 (by simpa using q0), fun q0 => HI.out.p52 (by simpa using q0), fun q0 => HI.out.p53 (by simpa using q0), fun q0 => HI.out.f0 (by simpa using q0), fun q0 => HI.out.f1 (by simpa using q0)⟩⟩
    · obtain rfl := I.p41 hdep
      have HI := Lib.hid I
      have HK := Lib.hid hK
      have HD := Lib.hid hd
      have HDP := Lib.hid hdep
      clear I hK hd hdep hi hin hcl
      go_simp
      exact HK.out _ _ ⟨g, gg, cc, _, _, _, _, _, _, _, _, _, _, _, _, _, _, rfl, ⟨HI.out.b, fun q0 => HI.out.be (by simpa using q0), fun q0 => HI.out.p40 (by simpa using q0), fun q0 => HI.out.p41 (by simpa using q0), fun _ => rfl, fun q0 => HI.out.p43 (by simpa using q0), fun q0 => HI.out.p44 (by simpa using q0), fun q0 => HI.out.p45 (by simpa using q0), fun q0 => HI.out.p46 (by simpa using q0), fun q0 => HI.out.p47 (by simpa using q0), fun q0 => HI.out.p48 (by simpa using q0), fun q0 => HI.out.p49 (by simpa using q0), fun q0 q1 => HI.out.p50 (by simpa using q0) (by simpa using q1), fun q0 q1 => HI.out.c50 (by simpa using q0) (by simpa using q1), fun q0 => HI.out.p51 (by simpa using q0), fun q0 q1 => HI.out.o51 (by simpa using q0) (by simpa using q1), fun q0 q1 => HI.out.h51 (by simpa using q0) (by simpa using q1), fun q0 => HI.out.k51 (by simpa using q0), fun q0 => HI.out.p52 (by simpa using q0), fun q0 => HI.out.p53 (by simpa using q0), fun q0 => HI.out.f0 (by simpa using q0), fun q0 => HI.out.f1 (by simpa using q0)⟩⟩
    · obtain rfl := I.p42 hdep
      have HI := Lib.hid I
      have HK := Lib.hid hK
      have HD := Lib.hid hd
      have HDP := Lib.hid hdep
      clear I hK hd hdep hi hin hcl
      go_simp
      exact HK.out _ _ ⟨g, gg, cc, _, _, _, _, _, _, _, _, _, _, _, _, _, _, rfl, ⟨HI.out.b, fun q0 => HI.out.be (by simpa using q0), fun q0 => HI.out.p40 (by simpa using q0), fun q0 => HI.out.p41 (by simpa using q0), fun q0 => HI.out.p42 (by simpa using q0), fun _ => rfl, fun q0 => HI.out.p44 (by simpa using q0), fun q0 => HI.out.p45 (by simpa using q0), fun q0 => HI.out.p46 (by simpa using q0), fun q0 => HI.out.p47 (by simpa using q0), fun q0 => HI.out.p48 (by simpa using q0), fun q0 => HI.out.p49 (by simpa using q0), fun q0 q1 => HI.out.p50 (by simpa using q0) (by simpa using q1), fun q0 q1 => HI.out.c50 (by simpa using q0) (by simpa using q1), fun q0 => HI.out.p51 (by simpa using q0), fun q0 q1 => HI.out.o51 (by simpa using q0) (by simpa using q1), fun q0 q1 => HI.out.h51 (by simpa using q0) (by simpa using q1), fun q0 => HI.out.k51 (by simpa using q0), fun q0 => HI.out.p52 (by simpa using q0), fun q0 => HI.out.p53 (by simpa using q0), fun q0 => HI.out.f0 (by simpa using q0), fun q0 => HI.out.f1 (by simpa using q0)⟩⟩
    · have z11 := hcl 11 _ rfl
      simp only [Region.binds, List.mem_cons, List.not_mem_nil, or_false, forall_eq_or_imp, forall_eq, forall_const] at z11
      have f11 : d 11 = false := by
        cases hz : d 11 with
        | false => rfl
        | true =>
          have hz' := z11 hz
          simp [hd] at hz'
      clear z11
      obtain rfl := I.p43 hdep
      have hcx := cell_later (I.be f11) hcell
      have F11 := Lib.hid f11
      clear f11
      have HI := Lib.hid I
      have HK := Lib.hid hK
      have HD := Lib.hid hd
      have HDP := Lib.hid hdep
      clear I hK hd hdep hi hin hcl
      go_simp
      exact HK.out _ _ ⟨g, gg, cc, _, _, _, _, _, _, _, _, _, _, _, _, _, _, rfl, ⟨HI.out.b, fun q0 => HI.out.be (by simpa using q0), fun q0 => HI.out.p40 (by simpa using q0), fun q0 => HI.out.p41 (by simpa using q0), fun q0 => HI.out.p42 (by simpa using q0), fun q0 => HI.out.p43 (by simpa using q0), fun _ => rfl, fun q0 => HI.out.p45 (by simpa using q0), fun q0 => HI.out.p46 (by simpa using q0), fun q0 => HI.out.p47 (by simpa using q0), fun q0 => HI.out.p48 (by simpa using q0), fun q0 => HI.out.p49 (by simpa using q0), fun q0 q1 => HI.out.p50 (by simpa using q0) (by simpa using q1), fun q0 q1 => HI.out.c50 (by simpa using q0) (by simpa using q1), fun q0 => HI.out.p51 (by simpa using q0), fun q0 q1 => HI.out.o51 (by simpa using q0) (by simpa using q1), fun q0 q1 => HI.out.h51 (by simpa using q0) (by simpa using q1), fun q0 => HI.out.k51 (by simpa using q0), fun q0 => HI.out.p52 (by simpa using q0), fun q0 => HI.out.p53 (by simpa using q0), fun q0 => HI.out.f0 (by simpa using q0), fun q0 => HI.out.f1 (by simpa using q0)⟩⟩
    · have HI := Lib.hid I
      have HK := Lib.hid hK
      have HD := Lib.hid hd
      have HDP := Lib.hid hdep
      clear I hK hd hdep hi hin hcl
      go_simp
      exact HK.out _ _ ⟨g, gg, cc, _, _, _, _, _, _, _, _, _, _, _, _, _, _, rfl, ⟨HI.out.b, fun q0 => HI.out.be (by simpa using q0), fun q0 => HI.out.p40 (by simpa using q0), fun q0 => HI.out.p41 (by simpa using q0), fun q0 => HI.out.p42 (by simpa using q0), fun q0 => HI.out.p43 (by simpa using q0), fun q0 => HI.out.p44 (by simpa using q0), fun _ => rfl, fun q0 => HI.out.p46 (by simpa using q0), fun q0 => HI.out.p47 (by simpa using q0), fun q0 => HI.out.p48 (by simpa using q0), fun q0 => HI.out.p49 (by simpa using q0), fun q0 q1 => HI.out.p50 (by simpa using q0) (by simpa using q1), fun q0 q1 => HI.out.c50 (by simpa using q0) (by simpa using q1), fun q0 => HI.out.p51 (by simpa using q0), fun q0 q1 => HI.out.o51 (by simpa using q0) (by simpa using q1), fun q0 q1 => HI.out.h51 (by simpa using q0) (by simpa using q1), fun q0 => HI.out.k51 (by simpa using q0), fun q0 => HI.out.p52 (by simpa using q0), fun q0 => HI.out.p53 (by simpa using q0), fun q0 => HI.out.f0 (by simpa using q0), fun q0 => HI.out.f1 (by simpa using q0)⟩⟩
    · have z9 := hcl 9 _ rfl
      simp only [Region.binds, List.mem_cons, List.not_mem_nil, or_false, forall_eq_or_imp, forall_eq, forall_const] at z9
      have f9 : d 9 = false := by
        cases hz : d 9 with
        | false => rfl
        | true =>
          have hz' := z9 hz
          simp [hd] at hz'
      clear z9
      have z10 := hcl 10 _ rfl
      simp only [Region.binds, List.mem_cons, List.not_mem_nil, or_false, forall_eq_or_imp, forall_eq, forall_const] at z10
      have f10 : d 10 = false := by
        cases hz : d 10 with
        | false => rfl
        | true =>
          have hz' := z10 hz
          simp [hd, f9] at hz'
      clear z10
      have z11 := hcl 11 _ rfl
      simp only [Region.binds, List.mem_cons, List.not_mem_nil, or_false, forall_eq_or_imp, forall_eq, forall_const] at z11
      have f11 : d 11 = false := by
        cases hz : d 11 with
        | false => rfl
        | true =>
          have hz' := z11 hz
          simp [hd, f9, f10] at hz'
      clear z11
      obtain rfl := I.p45 hdep
      have hcx := cell_later (I.be f11) e0
      have F9 := Lib.hid f9
      clear f9
      have F10 := Lib.hid f10
      clear f10
      have F11 := Lib.hid f11
      clear f11
      have HI := Lib.hid I
      have HK := Lib.hid hK
      have HD := Lib.hid hd
      have HDP := Lib.hid hdep
      clear I hK hd hdep hi hin hcl
      go_simp
      exact HK.out _ _ ⟨g, gg, cc, _, _, _, _, _, _, _, _, _, _, _, _, _, _, rfl, ⟨HI.out.b, fun q0 => HI.out.be (by simpa using q0), fun q0 => HI.out.p40 (by simpa using q0), fun q0 => HI.out.p41 (by simpa using q0), fun q0 => HI.out.p42 (by simpa using q0), fun q0 => HI.out.p43 (by simpa using q0), fun q0 => HI.out.p44 (by simpa using q0), fun q0 => HI.out.p45 (by simpa using q0), fun _ => rfl, fun q0 => HI.out.p47 (by simpa using q0), fun q0 => HI.out.p48 (by simpa using q0), fun q0 => HI.out.p49 (by simpa using q0), fun q0 q1 => HI.out.p50 (by simpa using q0) (by simpa using q1), fun q0 q1 => HI.out.c50 (by simpa using q0) (by simpa using q1), fun q0 => HI.out.p51 (by simpa using q0), fun q0 q1 => HI.out.o51 (by simpa using q0) (by simpa using q1), fun q0 q1 => HI.out.h51 (by simpa using q0) (by simpa using q1), fun q0 => HI.out.k51 (by simpa using q0), fun q0 => HI.out.p52 (by simpa using q0), fun q0 => HI.out.p53 (by simpa using q0), fun q0 => HI.out.f0 (by simpa using q0), fun q0 => HI.out.f1 (by simpa using q0)⟩⟩
    · have HI := Lib.hid I
      have HK := Lib.hid hK
      have HD := Lib.hid hd
      have HDP := Lib.hid hdep
      clear I hK hd hdep hi hin hcl
      go_simp
      exact HK.out _ _ ⟨g, gg, cc, _, _, _, _, _, _, _, _, _, _, _, _, _, _, rfl, ⟨HI.out.b, fun q0 => HI.out.be (by simpa using q0), fun q0 => HI.out.p40 (by simpa using q0), fun q0 => HI.out.p41 (by simpa using q0), fun q0 => HI.out.p42 (by simpa using q0), fun q0 => HI.out.p43 (by simpa using q0), fun q0 => HI.out.p44 (by simpa using q0), fun q0 => HI.out.p45 (by simpa using q0), fun q0 => HI.out.p46 (by simpa using q0), fun _ => rfl, fun q0 => HI.out.p48 (by simpa using q0), fun q0 => HI.out.p49 (by simpa using q0), fun q0 q1 => HI.out.p50 (by simpa using q0) (by simpa using q1), fun q0 q1 => HI.out.c50 (by simpa using q0) (by simpa using q1), fun q0 => HI.out.p51 (by simpa using q0), fun q0 q1 => HI.out.o51 (by simpa using q0) (by simpa using q1), fun q0 q1 => HI.out.h51 (by simpa using q0) (by simpa using q1), fun q0 => HI.out.k51 (by simpa using q0), fun q0 => HI.out.p52 (by simpa using q0), fun q0 => HI.out.p53 (by simpa using q0), fun q0 => HI.out.f0 (by simpa using q0), fun q0 => HI.out.f1 (by simpa using q0)⟩⟩
    · have z9 := hcl 9 _ rfl
      simp only [Region.binds, List.mem_cons, List.not_mem_nil, or_false, forall_eq_or_imp, forall_eq, forall_const] at z9
      have f9 : d 9 = false := by
        cases hz : d 9 with
        | false => rfl
        | true =>
          have hz' := z9 hz
          simp [hd] at hz'
      clear z9
      have z10 := hcl 10 _ rfl
      simp only [Region.binds, List.mem_cons, List.not_mem_nil, or_false, forall_eq_or_imp, forall_eq, forall_const] at z10
      have f10 : d 10 = false := by
        cases hz : d 10 with
        | false => rfl
        | true =>
          have hz' := z10 hz
          simp [hd, f9] at hz'
      clear z10
      have z11 := hcl 11 _ rfl
      simp only [Region.binds, List.mem_cons, List.not_mem_nil, or_false, forall_eq_or_imp, forall_eq, forall_const] at z11
      have f11 : d 11 = false := by
        cases hz : d 11 with
        | false => rfl
        | true =>
          have hz' := z11 hz
          simp [hd, f9, f10] at hz'
      clear z11
      obtain rfl := I.p47 hdep
      have hcx := cell_later (I.be f11) e1
      have F9 := Lib.hid f9
      clear f9
      have F10 := Lib.hid f10
      clear f10
      have F11 := Lib.hid f11
      clear f11
      have HI := Lib.hid I
      have HK := Lib.hid hK
      have HD := Lib.hid hd
      have HDP := Lib.hid hdep
      clear I hK hd hdep hi hin hcl
      go_simp
      exact HK.out _ _ ⟨g, gg, cc, _, _, _, _, _, _, _, _, _, _, _, _, _, _, rfl, ⟨HI.out.b, fun q0 => HI.out.be (by simpa using q0), fun q0 => HI.out.p40 (by simpa using q0), fun q0 => HI.out.p41 (by simpa using q0), fun q0 => HI.out.p42 (by simpa using q0), fun q0 => HI.out.p43 (by simpa using q0), fun q0 => HI.out.p44 (by simpa using q0), fun q0 => HI.out.p45 (by simpa using q0), fun q0 => HI.out.p46 (by simpa using q0), fun q0 => HI.out.p47 (by simpa using q0), fun _ => rfl, fun q0 => HI.out.p49 (by simpa using q0), fun q0 q1 => HI.out.p50 (by simpa using q0) (by simpa using q1), fun q0 q1 => HI.out.c50 (by simpa using q0) (by simpa using q1), fun q0 => HI.out.p51 (by simpa using q0), fun q0 q1 => HI.out.o51 (by simpa using q0) (by simpa using q1), fun q0 q1 => HI.out.h51 (by simpa using q0) (by simpa using q1), fun q0 => HI.out.k51 (by simpa using q0), fun q0 => HI.out.p52 (by simpa using q0), fun q0 => HI.out.p53 (by simpa using q0), fun q0 => HI.out.f0 (by simpa using q0), fun q0 => HI.out.f1 (by simpa using q0)⟩⟩
    · obtain rfl := I.p46 hdep.1
      obtain rfl := I.p48 hdep.2
      have HI := Lib.hid I
      have HK := Lib.hid hK
      have HD := Lib.hid hd
      have HDP := Lib.hid hdep
      clear I hK hd hdep hi hin hcl
      go_simp
      exact HK.out _ _ ⟨g, gg, cc, _, _, _, _, _, _, _, _, _, _, _, _, _, _, rfl, ⟨HI.out.b, fun q0 => HI.out.be (by simpa using q0), fun q0 => HI.out.p40 (by simpa using q0), fun q0 => HI.out.p41 (by simpa using q0), fun q0 => HI.out.p42 (by simpa using q0), fun q0 => HI.out.p43 (by simpa using q0), fun q0 => HI.out.p44 (by simpa using q0), fun q0 => HI.out.p45 (by simpa using q0), fun q0 => HI.out.p46 (by simpa using q0), fun q0 => HI.out.p47 (by simpa using q0), fun q0 => HI.out.p48 (by simpa using q0), fun _ => rfl, fun q0 q1 => HI.out.p50 (by simpa using q0) (by simpa using q1), fun q0 q1 => HI.out.c50 (by simpa using q0) (by simpa using q1), fun q0 => HI.out.p51 (by simpa using q0), fun q0 q1 => HI.out.o51 (by simpa using q0) (by simpa using q1), fun q0 q1 => HI.out.h51 (by simpa using q0) (by simpa using q1), fun q0 => HI.out.k51 (by simpa using q0), fun q0 => HI.out.p52 (by simpa using q0), fun q0 => HI.out.p53 (by simpa using q0), fun q0 => HI.out.f0 (by simpa using q0), fun q0 => HI.out.f1 (by simpa using q0)⟩⟩
    · have z11 := hcl 11 _ rfl
      simp only [Region.binds, List.mem_cons, List.not_mem_nil, or_false, forall_eq_or_imp, forall_eq, forall_const] at z11
      have f11 : d 11 = false := by
        cases hz : d 11 with
        | false => rfl
        | true =>
          have hz' := z11 hz
          simp [hd] at hz'
      clear z11
      have z14 := hcl 14 _ rfl
      simp only [Region.binds, List.mem_cons, List.not_mem_nil, or_false, forall_eq_or_imp, forall_eq, forall_const] at z14
      have f14 : d 14 = false := by
        cases hz : d 14 with
        | false => rfl
        | true =>
          have hz' := z14 hz
          simp [hd, f11] at hz'
      clear z14
      obtain rfl := I.p49 hdep
      have F11 := Lib.hid f11
      clear f11
      have F14 := Lib.hid f14
      clear f14
      have HI := Lib.hid I
      have HK := Lib.hid hK
      have HD := Lib.hid hd
      have HDP := Lib.hid hdep
      clear I hK hd hdep hi hin hcl
      go_simp
      have hb := below_alloc wx (.cells #[.slice x.ra x.rn x.rc, .int .i64 x.many, .slice none 0 0] 39)
      exact HK.out _ _ ⟨wx.heap.size, gg, cc, _, _, _, _, _, _, _, _, _, _, _, _, _, _, rfl, ⟨HI.out.b.alloc _, fun _ => below_then (HI.out.be F11.out) hb, fun q0 => HI.out.p40 (by simpa using q0), fun q0 => HI.out.p41 (by simpa using q0), fun q0 => HI.out.p42 (by simpa using q0), fun q0 => HI.out.p43 (by simpa using q0), fun q0 => HI.out.p44 (by simpa using q0), fun q0 => HI.out.p45 (by simpa using q0), fun q0 => HI.out.p46 (by simpa using q0), fun q0 => HI.out.p47 (by simpa using q0), fun q0 => HI.out.p48 (by simpa using q0), fun q0 => HI.out.p49 (by simpa using q0), fun _ _ => rfl, fun _ _ => rd_lit wx #[.slice x.ra x.rn x.rc, .int .i64 x.many, .slice none 0 0] 39 1 (by decide), fun q0 => HI.out.p51 (by simpa using q0), fun q0 => by simp [F11.out] at q0, fun q0 => by simp [F11.out] at q0, fun q0 => HI.out.k51 (by simpa using q0), fun q0 => HI.out.p52 (by simpa using q0), fun q0 => HI.out.p53 (by simpa using q0), fun q0 => by simp [F14.out] at q0, fun q0 => by simp [F14.out] at q0⟩⟩
    · have z14 := hcl 14 _ rfl
      simp only [Region.binds, List.mem_cons, List.not_mem_nil, or_false, forall_eq_or_imp, forall_eq, forall_const] at z14
      have f14 : d 14 = false := by
        cases hz : d 14 with
        | false => rfl
        | true =>
          have hz' := z14 hz
          simp [hd] at hz'
      clear z14
      obtain rfl := I.p44 hdep.1
      obtain rfl := I.p50 hdep.2 hd
      have F14 := Lib.hid f14
      clear f14
      have HI := Lib.hid I
      have HK := Lib.hid hK
      have HD := Lib.hid hd
      have HDP := Lib.hid hdep
      clear I hK hd hdep hi hin hcl
      refine step_app0 elIt ⟨_, elIt.ty, fun k h => by cases h⟩ (.tmp 44) (.tmp 50) rfl (B := B) rfl rfl (own_later HOV.out (HI.out.be HD.out)) (Src.of_rd (HI.out.c50 HDP.out.2 HD.out) rfl) (fun u hu => by simp only [List.mem_cons, List.not_mem_nil, or_false] at hu; rcases hu with rfl | rfl | rfl <;> rfl) (by simp only [maxLen]; omega) (by omega) (Nat.le_trans HBS2.out (HI.out.be HD.out).size) fun v' w' own' grow' blk' => ?_
      obtain ⟨gx, cx, rfl⟩ := ownsRow_succ own'
      have hbe := HI.out.be HD.out
      exact HK.out _ _ ⟨g, gx, cx, _, _, _, _, _, _, _, _, _, _, _, _, _, _, rfl, ⟨HI.out.b.trans (But.of_grown (S := fun k => k = pb ∨ Value.ownBlock ((.slice ao 0 c)) = some k) grow' fun k hk => .inr hk) (fun _ _ h => h), fun q => by simp at q, fun q0 => HI.out.p40 (by simpa using q0), fun q0 => HI.out.p41 (by simpa using q0), fun q0 => HI.out.p42 (by simpa using q0), fun q0 => HI.out.p43 (by simpa using q0), fun q0 => HI.out.p44 (by simpa using q0), fun q0 => HI.out.p45 (by simpa using q0), fun q0 => HI.out.p46 (by simpa using q0), fun q0 => HI.out.p47 (by simpa using q0), fun q0 => HI.out.p48 (by simpa using q0), fun q0 => HI.out.p49 (by simpa using q0), fun _ q => by simp at q, fun _ q => by simp at q, fun _ => rfl, fun _ _ => own', fun _ _ => (grow'.block pb (Nat.lt_of_lt_of_le HB2.out.lt hbe.size) (fun e => HB2.out.not_row e.symm)).trans ((hbe.block pb HB2.out.lt).trans HB0.out), fun _ k hk => blk'.elim (fun e => .inl (e.symm.trans (congrArg some hk))) (fun e => .inr (by have e2 : gx = wx.heap.size := Option.some.inj e; rw [← hk, e2]; exact hbe.size)), fun q0 => HI.out.p52 (by simpa using q0), fun q0 => HI.out.p53 (by simpa using q0), fun q0 => by simp [F14.out] at q0, fun q0 => by simp [F14.out] at q0⟩⟩
    · obtain rfl := I.p40 hdep.1
      have HI := Lib.hid I
      have HK := Lib.hid hK
      have HD := Lib.hid hd
      have HDP := Lib.hid hdep
      clear I hK hd hdep hi hin hcl
      go_simp
      exact HK.out _ _ ⟨g, gg, cc, _, _, _, _, _, _, _, _, _, _, _, _, _, _, rfl, ⟨HI.out.b, fun q0 => HI.out.be (by simpa using q0), fun q0 => HI.out.p40 (by simpa using q0), fun q0 => HI.out.p41 (by simpa using q0), fun q0 => HI.out.p42 (by simpa using q0), fun q0 => HI.out.p43 (by simpa using q0), fun q0 => HI.out.p44 (by simpa using q0), fun q0 => HI.out.p45 (by simpa using q0), fun q0 => HI.out.p46 (by simpa using q0), fun q0 => HI.out.p47 (by simpa using q0), fun q0 => HI.out.p48 (by simpa using q0), fun q0 => HI.out.p49 (by simpa using q0), fun q0 q1 => HI.out.p50 (by simpa using q0) (by simpa using q1), fun q0 q1 => HI.out.c50 (by simpa using q0) (by simpa using q1), fun q0 => HI.out.p51 (by simpa using q0), fun q0 q1 => HI.out.o51 (by simpa using q0) (by simpa using q1), fun q0 q1 => HI.out.h51 (by simpa using q0) (by simpa using q1), fun q0 => HI.out.k51 (by simpa using q0), fun _ => rfl, fun q0 => HI.out.p53 (by simpa using q0), fun q0 => HI.out.f0 (by simpa using q0), fun q0 => HI.out.f1 (by simpa using q0)⟩⟩
    · obtain rfl := I.p52 hdep.1
      have HI := Lib.hid I
      have HK := Lib.hid hK
      have HD := Lib.hid hd
      have HDP := Lib.hid hdep
      clear I hK hd hdep hi hin hcl
      go_simp
      exact HK.out _ _ ⟨g, gg, cc, _, _, _, _, _, _, _, _, _, _, _, _, _, _, rfl, ⟨HI.out.b, fun q0 => HI.out.be (by simpa using q0), fun q0 => HI.out.p40 (by simpa using q0), fun q0 => HI.out.p41 (by simpa using q0), fun q0 => HI.out.p42 (by simpa using q0), fun q0 => HI.out.p43 (by simpa using q0), fun q0 => HI.out.p44 (by simpa using q0), fun q0 => HI.out.p45 (by simpa using q0), fun q0 => HI.out.p46 (by simpa using q0), fun q0 => HI.out.p47 (by simpa using q0), fun q0 => HI.out.p48 (by simpa using q0), fun q0 => HI.out.p49 (by simpa using q0), fun q0 q1 => HI.out.p50 (by simpa using q0) (by simpa using q1), fun q0 q1 => HI.out.c50 (by simpa using q0) (by simpa using q1), fun q0 => HI.out.p51 (by simpa using q0), fun q0 q1 => HI.out.o51 (by simpa using q0) (by simpa using q1), fun q0 q1 => HI.out.h51 (by simpa using q0) (by simpa using q1), fun q0 => HI.out.k51 (by simpa using q0), fun q0 => HI.out.p52 (by simpa using q0), fun _ => rfl, fun q0 => HI.out.f0 (by simpa using q0), fun q0 => HI.out.f1 (by simpa using q0)⟩⟩
    · obtain rfl := I.p53 hdep.1
      obtain rfl := I.p51 hdep.2.1
      have hh := I.h51 hdep.2.1 hd
      have hcx : wx.cell? ⟨pb, 1, none⟩ = some ((.slice ao 0 c)) := by simp [World.cell?, hh]
      have hfx : wx.frozen? ⟨pb, 1, none⟩ = false := by simp [World.frozen?, hh]
      have HH := Lib.hid hh
      clear hh
      have HI := Lib.hid I
      have HK := Lib.hid hK
      have HD := Lib.hid hd
      have HDP := Lib.hid hdep
      clear I hK hd hdep hi hin hcl
      go_simp
      exact HK.out _ _ ⟨g, gg, cc, _, _, _, _, _, _, _, _, _, _, _, _, _, _, rfl, ⟨HI.out.b.set (.inl rfl) _, fun q => by simp [HDP.out.2.1] at q, fun q0 => HI.out.p40 (by simpa using q0), fun q0 => HI.out.p41 (by simpa using q0), fun q0 => HI.out.p42 (by simpa using q0), fun q0 => HI.out.p43 (by simpa using q0), fun q0 => HI.out.p44 (by simpa using q0), fun q0 => HI.out.p45 (by simpa using q0), fun q0 => HI.out.p46 (by simpa using q0), fun q0 => HI.out.p47 (by simpa using q0), fun q0 => HI.out.p48 (by simpa using q0), fun q0 => HI.out.p49 (by simpa using q0), fun _ q => by simp [HDP.out.2.1] at q, fun _ q => by simp [HDP.out.2.1] at q, fun q0 => HI.out.p51 (by simpa using q0), fun _ q => by simp at q, fun _ q => by simp at q, fun q0 => HI.out.k51 (by simpa using q0), fun q0 => HI.out.p52 (by simpa using q0), fun q0 => HI.out.p53 (by simpa using q0), fun _ => bag_set HH.out _, fun _ => bag_own HH.out (HI.out.o51 HDP.out.2.1 HD.out) _⟩⟩
  case zfin =>
    intro d act wx hI hall
    obtain ⟨g, gg, cc, s40, s41, s42, s43, s44, s45, s46, s47, s48, s49, s50, s51, s52, s53, rfl, I⟩ := hI
    obtain rfl := I.p51 (hall 11 (by decide))
    have hF0 := I.f0 (hall 14 (by decide))
    have hF1 := I.f1 (hall 14 (by decide))
    have hFb := I.b
    have hFk := I.k51 (hall 11 (by decide))
    clear I hall
    have HF0 := Lib.hid hF0
    have HF1 := Lib.hid hF1
    have HFb := Lib.hid hFb
    have HFk := Lib.hid hFk
    clear hF0 hF1 hFb hFk
    go_wp2_with fail
    refine bodyPost_ret (v := .tuple #[]) (by simp [results, Try.results33, go_sem]) rfl ⟨rfl, .slice (some ⟨gg, 0, none⟩) (0 + 1) cc, ⟨HF0.out, ?_⟩, ?_, fun k hk => ?_⟩
    · show World.ownsRow _ B _ 3 _ (List.length _) _
      skip
      exact HF1.out
    · exact (But.of_below HBW2.out).trans HFb.out (fun _ _ h => h)
    · rcases HFk.out k (by simpa [Value.ownBlock] using hk) with h | h
      · exact .inl (h)
      · exact .inr (Nat.le_trans HBW2.out.size h)
end Go.Proofs.Ytgmemdhbnnhifaa
