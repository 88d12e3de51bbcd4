/-
  Layer 24 (zset): Add, Scale, Neg, Set.
-/
import Derived.Test.YtgmemdhbnnhifaaZK
import Derived.Test.YtgmemdhbnnhifaaZN
namespace Go.Proofs.Ytgmemdhbnnhifaa
open Go.RowKit Go.Sort Go.BigFrame

theorem OwnI.ird {w' : World} {B : Nat} {v : Value} {l : List It} (h : OwnI w' B v l) (hv : ∀ x ∈ l, Vit w' x) : IRd w' v l := ⟨Rd.of_own h, hv⟩

theorem OfPost.later {w w1 : World} {l : List It} {e : Ending} {w' : World} (h : OfPost w1 l e w') (hb : Below w.heap.size w w1) : OfPost w l e w' := by
  obtain ⟨v, C, he, ho, hc, hb'⟩ := h
  exact ⟨v, C, he, own_mono ho hb.size, hc, below_then hb hb'⟩

set_option maxRecDepth 100000 in
set_option maxHeartbeats 1000000 in
theorem add_any (va vb : Value) (a b : List It) (w : World) (ha : IRd w va a) (hb : IRd w vb b) (hn : a.length + b.length ≤ 1000000) (hfa : ∀ x ∈ a, w64 x.many = x.many) (hfb : ∀ x ∈ b, w64 x.many = x.many) :
    Calls Try.prog 18 #[va, vb] w (OfPost w (a ++ b)) := by
  obtain ⟨a1, c1, rfl, _, _, _, _⟩ := id ha.1
  obtain ⟨a2, c2, rfl, _, _, _, _⟩ := id hb.1
  have hb0 := below_alloc w (.cells #[.slice a1 a.length c1, .slice a2 b.length c2] 22)
  have hcat := concat_any (.slice (some ⟨w.heap.size, 0, none⟩) 2 2) [(a1, a.length, c1), (a2, b.length, c2)] [a, b] (w.alloc (.cells #[.slice a1 a.length c1, .slice a2 b.length c2] 22)) (rd_lit w _ _ 2 (by decide))
    ⟨rfl, fun k hk => by
      match k, hk with
      | 0, _ => exact ha.1.later hb0
      | 1, _ => exact hb.1.later hb0, by simpa using hn⟩
  have HC := Lib.hid hcat
  have HA := Lib.hid ha
  have HB := Lib.hid hb
  have HB0 := Lib.hid hb0
  obtain ⟨n, hln⟩ : ∃ n, a.length = n := ⟨_, rfl⟩
  obtain ⟨m, hlm⟩ : ∃ m, b.length = m := ⟨_, rfl⟩
  have HF : Hid (∀ x ∈ a ++ b, w64 x.many = x.many) := fun x hx => (List.mem_append.1 hx).elim (hfa x) (hfb x)
  have HN := Lib.hid hn
  rw [hln, hlm] at HC HB0 ⊢
  clear hcat ha hb hb0 hfa hfb hln hlm hn
  go_enter Try.func18, Try.ntmps18
  go_wp2_with fail
  refine HC.out.mono ?_
  rintro e w1 ⟨v1, rfl, hown, hb1⟩
  have hbb := below_then HB0.out hb1
  have hfl : [a, b].flatten = a ++ b := by simp
  rw [hfl] at hown
  have hof := of_any v1 (a ++ b) w1 (OwnI.ird hown fun x hx => (List.mem_append.1 hx).elim (fun h => (HA.out.2 x h).later hbb) (fun h => (HB.out.2 x h).later hbb)) (by rw [List.length_append]; exact HN.out) HF.out
  have HO := Lib.hid hof
  have HBB := Lib.hid hbb
  clear hown hb1 hbb hfl hof HC
  go_wp2_with fail
  refine HO.out.mono ?_
  rintro e w2 hp
  have hp := hp.later HBB.out
  obtain ⟨v2, C, rfl, hrest⟩ := hp
  have HR := Lib.hid hrest
  clear hrest HO
  go_wp2_with fail
  go_ret
  exact ⟨_, _, rfl, HR.out⟩

theorem w64_wrap (x : Int) : w64 x = wrap64 x := by simp only [w64_def, wrap64, IntKind.wrap_i64]

def scaleI (k : Int) (x : It) : It := { x with many := w64 (x.many * k) }

/-- Items of which the first k have another number each. -/
def fstI (g : It → It) (l : List It) (k : Nat) : List It := (l.take k).map g ++ l.drop k
theorem fstI_length (g : It → It) (l : List It) (k : Nat) : (fstI g l k).length = l.length := by
  unfold fstI; rw [List.length_append, List.length_map, ← List.length_append, List.take_append_drop]
theorem fstI_get (g : It → It) (l : List It) (k : Nat) (hk : k < l.length) (hk' : k < (fstI g l k).length) : (fstI g l k)[k] = l[k] := by
  have h : (fstI g l k)[k]? = l[k]? := by
    unfold fstI
    have hl : ((l.take k).map g).length = k := by simp [Nat.min_eq_left (Nat.le_of_lt hk)]
    rw [List.getElem?_append_right (by rw [hl]; exact Nat.le_refl _), hl, Nat.sub_self, List.getElem?_drop, Nat.add_zero]
  rw [List.getElem?_eq_getElem hk', List.getElem?_eq_getElem hk] at h
  exact Option.some.inj h
theorem fstI_next (g : It → It) (l : List It) (k : Nat) (hk : k < l.length) : (fstI g l k).set k (g l[k]) = fstI g l (k + 1) := by
  unfold fstI
  have hl : ((l.take k).map g).length = k := by simp [Nat.min_eq_left (Nat.le_of_lt hk)]
  rw [List.set_append_right _ _ (by rw [hl]; exact Nat.le_refl _), hl, Nat.sub_self, List.drop_eq_getElem_cons hk, List.set_cons_zero, List.take_succ_eq_append_getElem hk, List.map_append, List.append_assoc]
  rfl
theorem fstI_zero (g : It → It) (l : List It) : fstI g l 0 = l := by simp [fstI]
theorem fstI_all (g : It → It) (l : List It) (k : Nat) (hk : l.length ≤ k) : fstI g l k = l.map g := by
  unfold fstI; rw [List.take_of_length_le hk, List.drop_of_length_le hk, List.append_nil]

/-- The number of an item written anew. -/
theorem own_many {w : World} {B g c : Nat} {l : List It} {k : Nat} (h : OwnI w B (.slice (some ⟨g, 0, none⟩) l.length c) l) (hk : k < l.length) (m : Int) :
    OwnI (w.setCell ⟨g, k * 3 + 1, none⟩ (.int .i64 m)) B (.slice (some ⟨g, 0, none⟩) l.length c) (l.set k { l[k] with many := m }) := by
  have h1 := (h.stored (k * 3 + 1) (.int .i64 m)).1
  rw [itCs_set l k hk m] at h1
  show World.ownsRow _ B _ 3 _ (List.length _) _
  rw [List.length_set]
  exact h1

set_option maxRecDepth 100000 in
set_option maxHeartbeats 2000000 in
theorem scale_any (va : Value) (l : List It) (q : Int) (w : World) (ha : IRd w va l) (hn : l.length ≤ 1000000) :
    Calls Try.prog 20 #[va, .int .i64 q] w (OfPost w (l.map (scaleI q))) := by
  obtain ⟨n, hln⟩ : ∃ n, l.length = n := ⟨_, rfl⟩
  have hcl := clone_any va l w ha.1 hn
  have HC := Lib.hid hcl
  have HA := Lib.hid ha
  have HN := Lib.hid hn
  have HLN := Lib.hid hln
  rw [hln] at HC hn
  clear hcl ha hln
  go_enter Try.func20, Try.ntmps20
  go_wp2_with fail
  refine HC.out.mono ?_
  rintro e w1 ⟨v1, rfl, hown, hb1⟩
  obtain ⟨ao, c, rfl, hnc, hcm, _, _⟩ := Rd.of_own hown
  have hown0 : OwnI w1 w.heap.size (.slice ao n c) (fstI (scaleI q) l 0) := by
    unfold OwnI; rw [fstI_zero, HLN.out]; exact hown
  have HO0 := Lib.hid hown0
  have HB1 := Lib.hid hb1
  unfold maxLen at hcm
  clear hown hb1 hown0 HC
  go_wp2_with fail
  go_loopw [11] (fun vi wr => ∃ k : Nat, k ≤ n ∧ vi = .int .i64 k ∧ Hid (OwnI wr w.heap.size (.slice ao n c) (fstI (scaleI q) l k)) ∧ Hid (Below w.heap.size w wr)) (fun vi _ => n - (intOf vi).toNat)
  case atStart => exact ⟨0, Nat.zero_le _, rfl, HO0.out, HB1.out⟩
  case round =>
    obtain ⟨k, hk, rfl, ho, hbw⟩ := hrel
    rename World => wr
    by_cases hlt : k < n
    · have hkl : k < l.length := by have := HLN.out; omega
      have hkf : k < (fstI (scaleI q) l k).length := by rw [fstI_length]; exact hkl
      obtain ⟨g, c', o, hv, ho', hbg, _, _, x1, c0, c1, c2, hf, hgl⟩ := own_it ho.out k hkf
      have hm := own_many (k := k) (by rw [← hv]; exact ho.out) hkf (w64 ((l[k]).many * q))
      rw [← hv] at hm
      have hnx := fstI_next (scaleI q) l k hkl
      have hgk := fstI_get (scaleI q) l k hkl hkf
      rw [hgk] at c0 c1 c2 hm
      have hnx' : (fstI (scaleI q) l k).set k { l[k] with many := w64 (l[k].many * q) } = fstI (scaleI q) l (k + 1) := hnx
      rw [hnx', ← ho', w64_wrap] at hm
      cases hv
      have hf1 := hf (o + 1)
      have HM := Lib.hid hm
      obtain ⟨x, hx⟩ : ∃ x, l[k] = x := ⟨_, rfl⟩
      rw [hx] at c0 c1 c2 HM
      have HBG := Lib.hid hbg
      clear hm hnx hnx' hgk hf hx ho' hbg
      go_wp2_with fail
      go_roundw
      case rel =>
        refine ⟨k + 1, by omega, by go_num, ?_, hbw.out.setCell HBG.out _⟩
        exact HM.out
      case measure => simp [intOf]; omega
    · have hkn : k = n := by omega
      subst hkn
      have hall : fstI (scaleI q) l k = l.map (scaleI q) := fstI_all _ _ _ (by have := HLN.out; omega)
      have ho2 := ho.out
      rw [hall] at ho2
      have hof := of_any _ (l.map (scaleI q)) wr (OwnI.ird ho2 fun x hx => by
        obtain ⟨y, hy, rfl⟩ := List.mem_map.1 hx
        exact (HA.out.2 y hy : Vit w (scaleI q y)).later hbw.out) (by rw [List.length_map]; exact HN.out) (fun x hx => by
        obtain ⟨y, hy, rfl⟩ := List.mem_map.1 hx
        exact w64_idem _)
      have HO := Lib.hid hof
      clear hof ho2 hall
      go_wp2_with fail
      refine HO.out.mono ?_
      rintro e w2 hp
      have hp := hp.later hbw.out
      obtain ⟨v2, C, rfl, hrest⟩ := hp
      have HR := Lib.hid hrest
      clear hrest HO
      go_wp2_with fail
      go_ret
      exact ⟨_, _, rfl, HR.out⟩

set_option maxRecDepth 100000 in
theorem neg_any (va : Value) (l : List It) (w : World) (ha : IRd w va l) (hn : l.length ≤ 1000000) :
    Calls Try.prog 22 #[va] w (OfPost w (l.map (scaleI (-1)))) := by
  have HS := Lib.hid (scale_any va l (-1) w ha hn)
  clear ha hn
  go_enter Try.func22, Try.ntmps22
  go_wp2_with fail
  refine HS.out.mono ?_
  rintro e w2 ⟨v2, C, rfl, hrest⟩
  have HR := Lib.hid hrest
  clear hrest HS
  go_wp2_with fail
  go_ret
  exact ⟨_, _, rfl, HR.out⟩

/-- What is there more than nought times, once. -/
def setI (C : List It) : List It := (C.filter fun x => !decide (x.many < 0)).map fun x => { x with many := 1 }

def SetPost (w : World) (l : List It) (e : Ending) (w' : World) : Prop :=
  ∃ v' C, e = .returned v' ∧ OwnI w' w.heap.size v' (setI C) ∧ Of1 l C ∧ Below w.heap.size w w'

set_option maxRecDepth 100000 in
set_option maxHeartbeats 2000000 in
theorem set_any (va : Value) (l : List It) (w : World) (ha : IRd w va l) (hn : l.length ≤ 1000000) (hfit : ∀ x ∈ l, w64 x.many = x.many) :
    Calls Try.prog 24 #[va] w (SetPost w l) := by
  have HOF := Lib.hid (of_any va l w ha hn hfit)
  have HN := Lib.hid hn
  clear ha hn hfit
  go_enter Try.func24, Try.ntmps24
  go_wp2_with fail
  refine HOF.out.mono ?_
  rintro e w1 ⟨v1, C, rfl, hown, hof, hb1⟩
  have hdel := delete_any set1_ok w.heap.size v1 C w1 hown (Nat.le_trans hof.few HN.out)
  have HD := Lib.hid hdel
  have HB1 := Lib.hid hb1
  have HO1 := Lib.hid hown
  have HF := Lib.hid hof
  clear hown hof hb1 hdel HOF
  go_wp2_with fail
  refine HD.out.mono ?_
  rintro e w2 ⟨v2, rfl, hown2, hbut, _⟩
  obtain ⟨D, hD⟩ : ∃ D, (C.filter fun x => !decide (x.many < 0)) = D := ⟨_, rfl⟩
  rw [hD] at hown2
  obtain ⟨n, hln⟩ : ∃ n, D.length = n := ⟨_, rfl⟩
  have hn : n ≤ 1000000 := by
    rw [← hln, ← hD]
    exact Nat.le_trans (List.length_filter_le _ _) (Nat.le_trans HF.out.few HN.out)
  have hb2 : Below w.heap.size w w2 := HB1.out.trans (hbut.below HB1.out.size fun k hk => (HO1.out.lt k hk).1)
  obtain ⟨ao, c, rfl, hnc, hcm, _, _⟩ := Rd.of_own hown2
  have hown0 : OwnI w2 w.heap.size (.slice ao n c) (fstI (fun x => { x with many := 1 }) D 0) := by
    rw [fstI_zero, ← hln]; exact hown2
  rw [hln] at hnc
  have HO0 := Lib.hid hown0
  have HB2 := Lib.hid hb2
  have HLN := Lib.hid hln
  have HDD := Lib.hid hD
  unfold maxLen at hcm
  rw [hln]
  clear hown2 hb2 hown0 HD hln hD hbut
  go_wp2_with fail
  go_loopw [10] (fun vi wr => ∃ k : Nat, k ≤ n ∧ vi = .int .i64 k ∧ Hid (OwnI wr w.heap.size (.slice ao n c) (fstI (fun x => { x with many := 1 }) D k)) ∧ Hid (Below w.heap.size w wr)) (fun vi _ => n - (intOf vi).toNat)
  case atStart => exact ⟨0, Nat.zero_le _, rfl, HO0.out, HB2.out⟩
  case round =>
    obtain ⟨k, hk, rfl, ho, hbw⟩ := hrel
    rename World => wr
    by_cases hlt : k < n
    · have hkl : k < D.length := by have := HLN.out; omega
      have hkf : k < (fstI (fun x => { x with many := 1 }) D k).length := by rw [fstI_length]; exact hkl
      obtain ⟨g, c', o, hv, ho', hbg, _, _, x1, c0, c1, c2, hf, hgl⟩ := own_it ho.out k hkf
      have hm := own_many (k := k) (by rw [← hv]; exact ho.out) hkf 1
      rw [← hv] at hm
      have hnx := fstI_next (fun x => { x with many := 1 }) D k hkl
      have hgk := fstI_get (fun x => { x with many := 1 }) D k hkl hkf
      rw [hgk] at c0 c1 c2 hm
      rw [hnx, ← ho'] at hm
      cases hv
      have hf1 := hf (o + 1)
      have HM := Lib.hid hm
      obtain ⟨x, hx⟩ : ∃ x, D[k] = x := ⟨_, rfl⟩
      rw [hx] at c0 c1 c2
      have HBG := Lib.hid hbg
      clear hm hnx hgk hf hx ho' hbg
      go_wp2_with fail
      go_roundw
      case rel => exact ⟨k + 1, by omega, by go_num, HM.out, hbw.out.setCell HBG.out _⟩
      case measure => simp [intOf]; omega
    · have hkn : k = n := by omega
      subst hkn
      have hall : fstI (fun x => { x with many := 1 }) D k = D.map (fun x => { x with many := 1 }) := fstI_all _ _ _ (by have := HLN.out; omega)
      have HALL := Lib.hid hall
      clear hall
      go_wp2_with fail
      go_ret
      refine ⟨_, C, rfl, ?_, HF.out, hbw.out⟩
      unfold setI
      rw [HDD.out, ← HALL.out]; exact ho.out
end Go.Proofs.Ytgmemdhbnnhifaa
