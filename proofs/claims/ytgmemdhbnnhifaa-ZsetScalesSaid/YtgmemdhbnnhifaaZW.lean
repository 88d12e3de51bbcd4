/-
  Layer 24 (zset): the document's answer: Add, Scale, Neg, Set.
-/
import Derived.Test.YtgmemdhbnnhifaaZU
namespace Go.Proofs.Ytgmemdhbnnhifaa
open Go.RowKit Go.Sort Go.BigFrame

theorem Of1.congr {l m C : List It} (h : Of1 l C) (hp : l.map It.p = m.map It.p) (hr : ∀ x ∈ l, ∃ y ∈ m, RowOf x y) : Of1 m C := by
  refine ⟨h.nrm, fun r => by rw [h.cnt r, hp], h.nby, ?_, fun x hx => ?_⟩
  · have := congrArg List.length hp
    simp only [List.length_map] at this
    rw [← this]; exact h.few
  · obtain ⟨y, hy, h1⟩ := h.rows x hx
    obtain ⟨z, hz, h2⟩ := hr y hy
    exact ⟨z, hz, h1.1.trans h2.1, h1.2.1.trans h2.2.1, h1.2.2.1.trans h2.2.2.1, h1.2.2.2.trans h2.2.2.2⟩

set_option maxRecDepth 100000 in
set_option maxHeartbeats 2000000 in
theorem refAdd_any (va vb : Value) (a b : List It) (w : World) (ha : IRd w va a) (hb : IRd w vb b) (hn : a.length + b.length ≤ 1000000) (hfa : ∀ x ∈ a, w64 x.many = x.many) (hfb : ∀ x ∈ b, w64 x.many = x.many) :
    Calls Try.prog 19 #[va, vb] w (OfPost w (a ++ b)) := by
  obtain ⟨a1, c1, rfl, _, _, _, _⟩ := id ha.1
  obtain ⟨a2, c2, rfl, _, _, _, _⟩ := id hb.1
  have hb0 := below_alloc w (.cells #[] 39)
  have hown : (w.alloc (.cells #[] 39)).ownsRow w.heap.size 39 3 (.slice (some ⟨w.heap.size, 0, none⟩) 0 0) 0 [] := World.ownsRow_lit w #[] 0 (Nat.le_refl _) (by decide) rfl
  have hsrc1 : Src Try.prog (w.alloc (.cells #[] 39)) 3 (.slice a1 a.length c1) a.length (itCs a) := Src.of_rd (ha.1.later hb0) (itCs_length _)
  have HA := Lib.hid ha
  have HB := Lib.hid hb
  have HB0 := Lib.hid hb0
  have HF : Hid (∀ x ∈ a ++ b, w64 x.many = x.many) := fun x hx => (List.mem_append.1 hx).elim (hfa x) (hfb x)
  have HN := Lib.hid hn
  have HS1 := Lib.hid hsrc1
  have HO := Lib.hid hown
  obtain ⟨n, hln⟩ : ∃ n, a.length = n := ⟨_, rfl⟩
  obtain ⟨m, hlm⟩ : ∃ m, b.length = m := ⟨_, rfl⟩
  have HLM := Lib.hid hlm
  have HLN := Lib.hid hln
  rw [hln, hlm] at hn
  rw [hln] at HS1
  rw [hln, hlm]
  clear ha hb hb0 hfa hfb hsrc1 hown hln hlm
  go_enter Try.func19, Try.ntmps19
  go_wp2_with (at_builtin; first
    | (refine wpList_app elIt ⟨_, elIt.ty, fun k h => by cases h⟩ rfl (.tmp 5) (.tmp 6) rfl rfl rfl HO.out HS1.out (oneIt a) (by simp only [maxLen]; omega) (by omega) (by simp) ?_; intro v1 w1 own1 grow1 blk1; have HO1 := Lib.hid own1; have HB1 := Lib.hid (HB0.out.grown grow1 HB0.out.size (fun k hk => (HO.out.lt k hk).1)); clear own1 grow1 blk1)
    | (refine wpList_app elIt ⟨_, elIt.ty, fun k h => by cases h⟩ rfl (.tmp 7) (.tmp 8) rfl rfl rfl HO1.out (Src.of_rd (by have := HB.out.1.later HB1.out; rw [HLM.out] at this; exact this) (by rw [itCs_length, HLM.out])) (oneIt b) (by simp only [maxLen]; omega) (by omega) HB1.out.size ?_; intro v2 w2 own2 grow2 blk2; have HO2 := Lib.hid own2; have HB2 := Lib.hid (HB1.out.grown grow2 HB1.out.size (fun k hk => (HO1.out.lt k hk).1)); clear own2 grow2 blk2))
  have hown : OwnI w2 w.heap.size v2 (a ++ b) := by
    have := HO2.out
    unfold OwnI
    rw [List.length_append, itCs_app, HLN.out, HLM.out]
    rwa [List.nil_append, Nat.zero_add] at this
  have hof := refOf_any v2 (a ++ b) w2 (OwnI.ird hown fun x hx => (List.mem_append.1 hx).elim (fun h => (HA.out.2 x h).later HB2.out) (fun h => (HB.out.2 x h).later HB2.out)) (by rw [List.length_append]; exact HN.out) HF.out
  have HOF := Lib.hid hof
  clear hof hown
  go_wp2_with fail
  refine HOF.out.mono ?_
  rintro e w3 hp
  have hp := hp.later HB2.out
  obtain ⟨v3, C, rfl, hrest⟩ := hp
  have HR := Lib.hid hrest
  clear hrest HOF
  go_wp2_with fail
  go_ret
  exact ⟨_, _, rfl, HR.out⟩

set_option maxRecDepth 100000 in
set_option maxHeartbeats 4000000 in
theorem refScale_any (va : Value) (l : List It) (q : Int) (w : World) (ha : IRd w va l) (hn : l.length ≤ 1000000) :
    Calls Try.prog 21 #[va, .int .i64 q] w (OfPost w (l.map (scaleI q))) := by
  obtain ⟨ao, c, rfl, hnc, hcm, _, _⟩ := id ha.1
  obtain ⟨n, hln⟩ : ∃ n, l.length = n := ⟨_, rfl⟩
  have HA := Lib.hid ha
  have HLN := Lib.hid hln
  have HN := Lib.hid hn
  rw [hln] at hnc hn
  rw [hln]
  unfold maxLen at hcm
  clear ha hln
  go_enter Try.func21, Try.ntmps21
  go_wp2_with fail
  go_loopw [5, 6] (fun vo vi wr => ∃ k : Nat, k ≤ n ∧ vi = .int .i64 k ∧ Hid (OwnI wr w.heap.size vo ((l.take k).map fun x => newI (scaleI q x))) ∧ Hid (Below w.heap.size w wr)) (fun _ vi _ => n - (intOf vi).toNat)
  case atStart => exact ⟨0, Nat.zero_le _, rfl, World.ownsRow_nil _ _ _ _, Below.refl _ _⟩
  case round =>
    obtain ⟨k, hk, rfl, ho, hbw⟩ := hrel
    rename World => wr
    by_cases hlt : k < n
    · have hkl : k < l.length := by have := HLN.out; omega
      obtain ⟨b1, o1, x1, c0, c1, c2, hb1l⟩ := rd_it HA.out.1 rfl k hkl
      rw [HLN.out] at x1
      replace c0 := cell_later hbw.out c0
      replace c1 := cell_later hbw.out c1
      have HB1L := Lib.hid hb1l
      have hnx : (l.take (k + 1)).map (fun x => newI (scaleI q x)) = (l.take k).map (fun x => newI (scaleI q x)) ++ [newI (scaleI q l[k])] := by
        rw [List.take_succ_eq_append_getElem hkl, List.map_append]; rfl
      obtain ⟨x, hx⟩ : ∃ x, l[k] = x := ⟨_, rfl⟩
      rw [hx] at c0 c1 c2 hnx
      obtain ⟨O, hO⟩ : ∃ O, (l.take k).map (fun x => newI (scaleI q x)) = O := ⟨_, rfl⟩
      have hOl : O.length ≤ k := by rw [← hO, List.length_map, List.length_take]; omega
      rw [hO] at ho hnx
      have HNX := Lib.hid hnx
      have HC0 := Lib.hid c0
      have HC1 := Lib.hid c1
      have HOL := Lib.hid hOl
      clear hx hnx hO hOl hb1l c2
      go_wp2_with fail
      go_region_held3 (fun w' => w'.cell? ⟨b1, o1, none⟩ = some (.slice x.ra x.rn x.rc) ∧ w'.cell? ⟨b1, o1 + 1, none⟩ = some (.int .i64 x.many)) (first | go_keep | exact ⟨grown_cell grow4 (cell_later (below_of_drew (below_alloc wr.drew _)) HC0.out) (fun e => by have := (ho.out.lt b1 e).1; have := HB1L.out; omega), grown_cell grow4 (cell_later (below_of_drew (below_alloc wr.drew _)) HC1.out) (fun e => by have := (ho.out.lt b1 e).1; have := HB1L.out; omega)⟩) ((refine step_app elIt ⟨_, elIt.ty, fun k h => by cases h⟩ (by rfl) (.tmp 13) (.tmp 27) (by rfl) (by rfl) (by rfl) (own_later ho.out (below_of_drew (below_alloc _ _))) (Src.of_rd (rd_lit _ _ _ 1 (by decide)) rfl) (by simp [Value.oneCell']) (by have := HOL.out; simp only [maxLen]; omega) (by have := HOL.out; omega) (by have := hbw.out.size; simp; omega) ?_; intro v4 w4 own4 grow4 blk4))
      have HO4 := Lib.hid (own_snoc (x := newI (scaleI q x)) own4)
      have HB4 := Lib.hid ((below_then hbw.out (below_of_drew (below_alloc wr.drew _))).grown grow4 (below_then hbw.out (below_of_drew (below_alloc wr.drew _))).size (fun k hk => (ho.out.lt k hk).1))
      clear own4 grow4 blk4
      go_wp2_with fail
      go_roundw
      case rel => exact ⟨k + 1, by omega, by go_num, by rw [HNX.out]; exact HO4.out, HB4.out⟩
      case measure => simp [intOf]; omega
    · have hkn : k = n := by omega
      subst hkn
      have ho2 := ho.out
      rw [List.take_of_length_le (by have := HLN.out; omega)] at ho2
      have hof := refOf_any _ (l.map fun x => newI (scaleI q x)) wr (OwnI.ird ho2 fun x hx => by
        obtain ⟨y, hy, rfl⟩ := List.mem_map.1 hx
        exact (HA.out.2 y hy : Vit w (newI (scaleI q y))).later hbw.out) (by rw [List.length_map]; exact HN.out) (fun x hx => by
        obtain ⟨y, hy, rfl⟩ := List.mem_map.1 hx
        exact w64_idem _)
      have HOF := Lib.hid hof
      clear hof ho2
      go_wp2_with fail
      refine HOF.out.mono ?_
      rintro e w2 hp
      have hp := hp.later hbw.out
      obtain ⟨v2, C, rfl, h1, h2, h3⟩ := hp
      have hrest : OwnI w2 w.heap.size v2 C ∧ Of1 (l.map (scaleI q)) C ∧ Below w.heap.size w w2 := ⟨h1, h2.congr (by rw [List.map_map, List.map_map]; rfl) (fun x hx => by
        obtain ⟨y, hy, rfl⟩ := List.mem_map.1 hx
        exact ⟨scaleI q y, List.mem_map_of_mem hy, rfl, rfl, rfl, rfl⟩), h3⟩
      have HR := Lib.hid hrest
      clear hrest HOF h1 h2 h3
      go_wp2_with fail
      go_ret
      exact ⟨_, _, rfl, HR.out⟩

set_option maxRecDepth 100000 in
theorem refNeg_any (va : Value) (l : List It) (w : World) (ha : IRd w va l) (hn : l.length ≤ 1000000) :
    Calls Try.prog 23 #[va] w (OfPost w (l.map (scaleI (-1)))) := by
  have HS := Lib.hid (refScale_any va l (-1) w ha hn)
  clear ha hn
  go_enter Try.func23, Try.ntmps23
  go_wp2_with fail
  refine HS.out.mono ?_
  rintro e w2 ⟨v2, C, rfl, hrest⟩
  have HR := Lib.hid hrest
  clear hrest HS
  go_wp2_with fail
  go_ret
  exact ⟨_, _, rfl, HR.out⟩

def setF (C : List It) : List It := (C.filter fun x => decide (0 < x.many)).map fun x => newI { x with many := 1 }

def RefSetPost (w : World) (l : List It) (e : Ending) (w' : World) : Prop :=
  ∃ v' C, e = .returned v' ∧ OwnI w' w.heap.size v' (setF C) ∧ Of1 l C ∧ Below w.heap.size w w'

theorem setF_next (C : List It) (k : Nat) (hk : k < C.length) : setF (C.take (k + 1)) = setF (C.take k) ++ if 0 < C[k].many then [newI { C[k] with many := 1 }] else [] := by
  unfold setF
  rw [List.take_succ_eq_append_getElem hk, List.filter_append, List.map_append]
  congr 1
  by_cases h : 0 < C[k].many
  · rw [if_pos h, List.filter_cons_of_pos (by simpa using h)]; rfl
  · rw [if_neg h, List.filter_cons_of_neg (by simpa using h)]; rfl

theorem setF_len (C : List It) : (setF C).length ≤ C.length := by
  unfold setF; rw [List.length_map]; exact List.length_filter_le _ _

set_option maxRecDepth 100000 in
set_option maxHeartbeats 4000000 in
theorem refSet_any (va : Value) (l : List It) (w : World) (ha : IRd w va l) (hn : l.length ≤ 1000000) (hfit : ∀ x ∈ l, w64 x.many = x.many) :
    Calls Try.prog 25 #[va] w (RefSetPost w l) := by
  have HOF := Lib.hid (refOf_any va l w ha hn hfit)
  have HN := Lib.hid hn
  clear ha hn hfit
  go_enter Try.func25, Try.ntmps25
  go_wp2_with fail
  refine HOF.out.mono ?_
  rintro e w1 ⟨v1, C, rfl, hown, hof, hb1⟩
  obtain ⟨ao, c, rfl, hnc, hcm, _, _⟩ := Rd.of_own hown
  obtain ⟨n, hln⟩ : ∃ n, C.length = n := ⟨_, rfl⟩
  have hn : n ≤ 1000000 := by rw [← hln]; exact Nat.le_trans hof.few HN.out
  have HO1 := Lib.hid hown
  have HB1 := Lib.hid hb1
  have HF := Lib.hid hof
  have HLN := Lib.hid hln
  unfold maxLen at hcm
  rw [hln] at hnc
  rw [hln]
  clear hown hof hb1 hln HOF
  go_wp2_with fail
  go_loopw [4, 5] (fun vo vi wr => ∃ k : Nat, k ≤ n ∧ vi = .int .i64 k ∧ Hid (OwnI wr w1.heap.size vo (setF (C.take k))) ∧ Hid (Below w1.heap.size w1 wr)) (fun _ vi _ => n - (intOf vi).toNat)
  case atStart => exact ⟨0, Nat.zero_le _, rfl, World.ownsRow_nil _ _ _ _, Below.refl _ _⟩
  case round =>
    obtain ⟨k, hk, rfl, ho, hbw⟩ := hrel
    rename World => wr
    by_cases hlt : k < n
    · have hkl : k < C.length := by have := HLN.out; omega
      obtain ⟨b1, o1, x1, c0, c1, c2, hb1l⟩ := rd_it ((Rd.of_own HO1.out).later hbw.out) rfl k hkl
      rw [HLN.out] at x1
      have hnx := setF_next C k hkl
      have hol : (setF (C.take k)).length ≤ k := Nat.le_trans (setF_len _) (by rw [List.length_take]; omega)
      obtain ⟨x, hx⟩ : ∃ x, C[k] = x := ⟨_, rfl⟩
      rw [hx] at c0 c1 c2 hnx
      have HOL := Lib.hid hol
      clear hx hb1l hol
      by_cases hpos : 0 < x.many
      · rw [if_pos hpos] at hnx
        have HNX := Lib.hid hnx
        clear hnx
        go_wp2_with (at_builtin; refine wpList_push elIt rfl (.tmp 20) (.tmp 27) rfl rfl rfl ho.out rfl rfl (by have := HOL.out; simp only [maxLen]; omega) (by have := HOL.out; omega) hbw.out.size ?_; intro v4 w4 own4 grow4 _blk4; have HO4 := Lib.hid (own_snoc (x := newI { x with many := 1 }) own4); have HB4 := Lib.hid (hbw.out.grown grow4 hbw.out.size (fun k hk => (ho.out.lt k hk).1)); clear own4 grow4 _blk4)
        go_roundw
        case rel => exact ⟨k + 1, by omega, by go_num, by rw [HNX.out]; exact HO4.out, HB4.out⟩
        case measure => simp [intOf]; omega
      · rw [if_neg hpos, List.append_nil] at hnx
        have HNX := Lib.hid hnx
        clear hnx
        go_wp2_with fail
        go_roundw
        case rel => exact ⟨k + 1, by omega, by go_num, by rw [HNX.out]; exact ho.out, hbw.out⟩
        case measure => simp [intOf]; omega
    · have hkn : k = n := by omega
      subst hkn
      have ho2 := ho.out
      rw [List.take_of_length_le (by have := HLN.out; omega)] at ho2
      have HO2 := Lib.hid ho2
      clear ho2
      go_wp2_with fail
      go_ret
      exact ⟨_, C, rfl, own_mono HO2.out HB1.out.size, HF.out, below_then HB1.out hbw.out⟩
end Go.Proofs.Ytgmemdhbnnhifaa
