/-
  Layer 24 (zset): the document's answer: Put.
-/
import Derived.Test.YtgmemdhbnnhifaaZK
import Derived.Deep.RegionHeld3
import Derived.Test.YtgmemdhbnnhifaaRI
import Derived.Test.YtgmemdhbnnhifaaRI
import Derived.Test.YtgmemdhbnnhifaaZO
namespace Go.Proofs.Ytgmemdhbnnhifaa
open Go.RowKit Go.Sort Go.BigFrame

/-- A row, so often, put into items: what is still to come. -/
def putF (x : It) : Bool → List It → List It
  | d, [] => if d = false ∧ x.many ≠ 0 then [newI x] else []
  | d, y :: l => if y.row = x.row then (if w64 (y.many + x.many) ≠ 0 then [newI { y with many := w64 (y.many + x.many) }] else []) ++ putF x true l
    else if lessR x.row y.row = true ∧ d = false then (if x.many ≠ 0 then [newI x] else []) ++ y :: putF x true l
    else y :: putF x d l

theorem putF_length (x : It) : ∀ (d : Bool) (l : List It), (putF x d l).length ≤ l.length + (if d then 0 else 1)
  | d, [] => by
    unfold putF
    cases d <;> simp; split <;> simp
  | d, y :: l => by
    unfold putF
    have h1 := putF_length x true l
    have h2 := putF_length x d l
    simp only [if_true] at h1
    split
    · split <;> simp <;> omega
    · split
      · rename_i h
        rw [h.2]
        split <;> simp <;> omega
      · simp; omega

def PutPost2 (w : World) (x : It) (l : List It) (e : Ending) (w' : World) : Prop :=
  ∃ v', e = .returned v' ∧ OwnI w' w.heap.size v' (putF x false l) ∧ Below w.heap.size w w'

theorem putF_cons (x y : It) (d : Bool) (l : List It) : putF x d (y :: l) = if y.row = x.row then (if w64 (y.many + x.many) ≠ 0 then [newI { y with many := w64 (y.many + x.many) }] else []) ++ putF x true l
    else if lessR x.row y.row = true ∧ d = false then (if x.many ≠ 0 then [newI x] else []) ++ y :: putF x true l
    else y :: putF x d l := by conv => lhs; unfold putF
theorem one_it (x : It) : itCs [x] = [.slice x.ra x.rn x.rc, .int .i64 x.many, .slice x.ba x.bn x.bc] := rfl
theorem own_snoc {w : World} {B : Nat} {v : Value} {O : List It} {x : It} (h : w.ownsRow B 39 3 v (O.length + 1) (itCs O ++ [.slice x.ra x.rn x.rc, .int .i64 x.many, .slice x.ba x.bn x.bc])) : OwnI w B v (O ++ [x]) := by
  unfold OwnI
  rw [itCs_app, one_it, List.length_append]
  exact h

set_option maxRecDepth 100000 in
set_option maxHeartbeats 4000000 in
theorem put2_any (va : Value) (x : It) (l : List It) (w : World) (ha : IRd w va l) (hx : Vit w x) (hn : l.length ≤ 1000000) :
    Calls Try.prog 36 #[va, .slice x.ra x.rn x.rc, .int .i64 x.many] w (PutPost2 w x l) := by
  obtain ⟨ao, c, rfl, hnc, hcm, _, _⟩ := id ha.1
  obtain ⟨n, hln⟩ : ∃ n, l.length = n := ⟨_, rfl⟩
  have HA := Lib.hid ha
  have HX := Lib.hid hx
  have HLN := Lib.hid hln
  rw [hln] at hnc hn
  rw [hln]
  unfold maxLen at hcm
  clear ha hx hln
  go_enter Try.func36, Try.ntmps36
  go_wp2_with fail
  go_loopw [7, 8, 9] (fun vo vd vi wr => ∃ (k : Nat) (d : Bool) (O : List It), k ≤ n ∧ vi = .int .i64 k ∧ vd = .bool d ∧ Hid (OwnI wr w.heap.size vo O) ∧ Hid (O ++ putF x d (l.drop k) = putF x false l ∧ O.length ≤ k + d.toNat) ∧ Hid (Below w.heap.size w wr)) (fun _ _ vi _ => n - (intOf vi).toNat)
  case atStart => exact ⟨0, false, [], Nat.zero_le _, rfl, rfl, World.ownsRow_nil _ _ _ _, ⟨by simp, by simp⟩, Below.refl _ _⟩
  case round =>
    obtain ⟨k, d, O, hk, rfl, rfl, ho, heq, hbw⟩ := hrel
    rename World => wr
    have HLE := Lib.hid heq.out.2
    have HL1 : Hid (O.length ≤ k + 1) := by have := heq.out.2; have := Bool.toNat_le d; show O.length ≤ k + 1; omega
    by_cases hlt : k < n
    · have hkl : k < l.length := by have := HLN.out; omega
      obtain ⟨b1, o1, x1, c0, c1, c2, hb1l⟩ := rd_it HA.out.1 rfl k hkl
      replace c0 := cell_later hbw.out c0
      replace c1 := cell_later hbw.out c1
      replace c2 := cell_later hbw.out c2
      have HB1L := Lib.hid hb1l
      clear hb1l
      rw [HLN.out] at x1
      have hv := (HA.out.2 _ (List.getElem_mem hkl)).later hbw.out
      have hdr := List.drop_eq_getElem_cons hkl
      obtain ⟨y, hy⟩ : ∃ y, l[k] = y := ⟨_, rfl⟩
      rw [hy] at c0 c1 c2 hv hdr
      have heq' := heq.out.1
      rw [hdr] at heq'
      rw [putF_cons] at heq'
      have HV := Lib.hid hv
      have HXR := Lib.hid (HX.out.later hbw.out)
      clear hy hv hdr
      by_cases hsame : y.row = x.row
      · have hs : sameR y.row x.row = true := decide_eq_true hsame
        have HS := Lib.hid hs
        rw [if_pos hsame] at heq'
        clear hs hsame
        cases hz : (wrap64 (y.many + x.many) != 0)
        · have hz2 : w64 (y.many + x.many) = 0 := by rw [w64_wrap]; simpa using hz
          rw [if_neg (by simp [hz2])] at heq'
          have HEQ := Lib.hid heq'
          clear heq' hz2
          go_wp2_with fail
          refine (refSameR_any _ _ y.row x.row _ HV.out HXR.out).mono ?_
          rintro e w2 ⟨rfl, hb2⟩
          rw [HS.out]
          replace c0 := cell_later hb2 c0
          replace c1 := cell_later hb2 c1
          replace c2 := cell_later hb2 c2
          have HB2 := Lib.hid hb2
          clear hb2
          go_wp2_with fail
          refine (refLessR_any _ _ x.row y.row _ (HXR.out.later HB2.out) (HV.out.later HB2.out)).mono ?_
          rintro e w3 ⟨rfl, hb3⟩
          replace c0 := cell_later hb3 c0
          replace c1 := cell_later hb3 c1
          replace c2 := cell_later hb3 c2
          have HB3 := Lib.hid (below_then HB2.out hb3)
          have HBW := Lib.hid (below_then hbw.out HB3.out)
          clear hb3
          have HO3 := Lib.hid (own_later ho.out HB3.out)
          go_wp2_with fail
          go_roundw
          case rel => exact ⟨k + 1, true, O, by omega, by go_num, rfl, HO3.out, ⟨by have := HEQ.out; rwa [List.nil_append] at this, by have := HLE.out; cases d <;> simp at * <;> omega⟩, HBW.out⟩
          case measure => simp [intOf]; omega
        · have hz2 : w64 (y.many + x.many) ≠ 0 := by rw [w64_wrap]; simpa using hz
          rw [if_pos hz2] at heq'
          have HEQ := Lib.hid heq'
          clear heq' hz2
          go_wp2_with fail
          refine (refSameR_any _ _ y.row x.row _ HV.out HXR.out).mono ?_
          rintro e w2 ⟨rfl, hb2⟩
          rw [HS.out]
          replace c0 := cell_later hb2 c0
          replace c1 := cell_later hb2 c1
          replace c2 := cell_later hb2 c2
          have HB2 := Lib.hid hb2
          clear hb2
          go_wp2_with fail
          refine (refLessR_any _ _ x.row y.row _ (HXR.out.later HB2.out) (HV.out.later HB2.out)).mono ?_
          rintro e w3 ⟨rfl, hb3⟩
          replace c0 := cell_later hb3 c0
          replace c1 := cell_later hb3 c1
          replace c2 := cell_later hb3 c2
          have HB3 := Lib.hid (below_then HB2.out hb3)
          have HBW := Lib.hid (below_then hbw.out HB3.out)
          clear hb3
          have HO3 := Lib.hid (own_later ho.out HB3.out)
          go_wp2_with fail
          have HC0 := Lib.hid c0
          have HC1 := Lib.hid c1
          go_region_held3 (fun w' => w'.cell? ⟨b1, o1, none⟩ = some (.slice y.ra y.rn y.rc) ∧ w'.cell? ⟨b1, o1 + 1, none⟩ = some (.int .i64 y.many)) (first | go_keep | exact ⟨grown_cell grow4 (cell_later (below_of_drew (below_alloc w3.drew _)) HC0.out) (fun e => by have := (HO3.out.lt b1 e).1; have := HB1L.out; omega), grown_cell grow4 (cell_later (below_of_drew (below_alloc w3.drew _)) HC1.out) (fun e => by have := (HO3.out.lt b1 e).1; have := HB1L.out; omega)⟩) ((refine step_app elIt ⟨_, elIt.ty, fun k h => by cases h⟩ (by rfl) (.tmp 41) (.tmp 55) (by rfl) (by rfl) (by rfl) (own_later HO3.out (below_of_drew (below_alloc _ _))) (Src.of_rd (rd_lit _ _ _ 1 (by decide)) rfl) (by simp [Value.oneCell']) (by have := HL1.out; simp only [maxLen]; omega) (by have := HL1.out; omega) (by have := HBW.out.size; simp; omega) ?_; intro v4 w4 own4 grow4 blk4))
          have HO4 := Lib.hid (own_snoc (x := newI { y with many := w64 (y.many + x.many) }) own4)
          have HB4 := Lib.hid ((below_then HBW.out (below_of_drew (below_alloc w3.drew _))).grown grow4 (below_then HBW.out (below_of_drew (below_alloc w3.drew _))).size (fun k hk => (HO3.out.lt k hk).1))
          clear own4 grow4 blk4
          go_wp2_with fail
          go_roundw
          case rel => exact ⟨k + 1, true, _, by omega, by go_num, rfl, HO4.out, ⟨by have := HEQ.out; rw [List.append_assoc]; exact this, by have := HLE.out; cases d <;> simp at * <;> omega⟩, HB4.out⟩
          case measure => simp [intOf]; omega
      · 
        have hs : sameR y.row x.row = false := decide_eq_false hsame
        have HS := Lib.hid hs
        rw [if_neg hsame] at heq'
        clear hs hsame
        cases hl : lessR x.row y.row
        · rw [if_neg (by simp [hl])] at heq'
          have HEQ := Lib.hid heq'
          have HLS := Lib.hid hl
          clear heq' hl
          cases d
          all_goals
            go_wp2_with fail
            refine (refSameR_any _ _ y.row x.row _ HV.out HXR.out).mono ?_
            rintro e w2 ⟨rfl, hb2⟩
            rw [HS.out]
            replace c0 := cell_later hb2 c0
            replace c1 := cell_later hb2 c1
            replace c2 := cell_later hb2 c2
            have HB2 := Lib.hid hb2
            clear hb2
            go_wp2_with fail
            refine (refLessR_any _ _ x.row y.row _ (HXR.out.later HB2.out) (HV.out.later HB2.out)).mono ?_
            rintro e w3 ⟨rfl, hb3⟩
            rw [HLS.out]
            replace c0 := cell_later hb3 c0
            replace c1 := cell_later hb3 c1
            replace c2 := cell_later hb3 c2
            have HB3 := Lib.hid (below_then HB2.out hb3)
            have HBW := Lib.hid (below_then hbw.out HB3.out)
            clear hb3
            have HO3 := Lib.hid (own_later ho.out HB3.out)
            go_wp2_with (at_builtin; refine wpList_push elIt rfl (.tmp 70) (.tmp 75) rfl rfl rfl HO3.out rfl rfl (by have := HL1.out; simp only [maxLen]; omega) (by have := HL1.out; omega) HBW.out.size ?_; intro v4 w4 own4 grow4 _blk4; have HO4 := Lib.hid (own_snoc (x := y) own4); have HB4 := Lib.hid (HBW.out.grown grow4 HBW.out.size (fun k hk => (HO3.out.lt k hk).1)); clear own4 grow4 _blk4)
            go_wp2_with fail
            go_roundw
            case rel => exact ⟨k + 1, _, _, by omega, by go_num, rfl, HO4.out, ⟨by have := HEQ.out; rw [List.append_assoc]; exact this, by have := HLE.out; simp at *; omega⟩, HB4.out⟩
            case measure => simp [intOf]; omega
        · cases d
          · rw [if_pos ⟨hl, rfl⟩] at heq'
            have HLS := Lib.hid hl
            clear hl
            cases hm : (x.many != 0)
            · rw [if_neg (by simpa using hm)] at heq'
              have HEQ := Lib.hid heq'
              clear heq'
              go_wp2_with fail
              refine (refSameR_any _ _ y.row x.row _ HV.out HXR.out).mono ?_
              rintro e w2 ⟨rfl, hb2⟩
              rw [HS.out]
              replace c0 := cell_later hb2 c0
              replace c1 := cell_later hb2 c1
              replace c2 := cell_later hb2 c2
              have HB2 := Lib.hid hb2
              clear hb2
              go_wp2_with fail
              refine (refLessR_any _ _ x.row y.row _ (HXR.out.later HB2.out) (HV.out.later HB2.out)).mono ?_
              rintro e w3 ⟨rfl, hb3⟩
              rw [HLS.out]
              replace c0 := cell_later hb3 c0
              replace c1 := cell_later hb3 c1
              replace c2 := cell_later hb3 c2
              have HB3 := Lib.hid (below_then HB2.out hb3)
              have HBW := Lib.hid (below_then hbw.out HB3.out)
              clear hb3
              have HO3 := Lib.hid (own_later ho.out HB3.out)
              go_wp2_with (at_builtin; refine wpList_push elIt rfl (.tmp 70) (.tmp 75) rfl rfl rfl HO3.out rfl rfl (by have := HL1.out; simp only [maxLen]; omega) (by have := HL1.out; omega) HBW.out.size ?_; intro v4 w4 own4 grow4 _blk4; have HO4 := Lib.hid (own_snoc (x := y) own4); have HB4 := Lib.hid (HBW.out.grown grow4 HBW.out.size (fun k hk => (HO3.out.lt k hk).1)); clear own4 grow4 _blk4)
              go_wp2_with fail
              go_roundw
              case rel => exact ⟨k + 1, true, _, by omega, by go_num, rfl, HO4.out, ⟨by have := HEQ.out; rw [List.nil_append] at this; rw [List.append_assoc]; exact this, by have := HLE.out; simp at *; omega⟩, HB4.out⟩
              case measure => simp [intOf]; omega
            · rw [if_pos (by simpa using hm)] at heq'
              have HEQ := Lib.hid heq'
              clear heq'
              go_wp2_with fail
              refine (refSameR_any _ _ y.row x.row _ HV.out HXR.out).mono ?_
              rintro e w2 ⟨rfl, hb2⟩
              rw [HS.out]
              replace c0 := cell_later hb2 c0
              replace c1 := cell_later hb2 c1
              replace c2 := cell_later hb2 c2
              have HB2 := Lib.hid hb2
              clear hb2
              go_wp2_with fail
              refine (refLessR_any _ _ x.row y.row _ (HXR.out.later HB2.out) (HV.out.later HB2.out)).mono ?_
              rintro e w3 ⟨rfl, hb3⟩
              rw [HLS.out]
              replace c0 := cell_later hb3 c0
              replace c1 := cell_later hb3 c1
              replace c2 := cell_later hb3 c2
              have HB3 := Lib.hid (below_then HB2.out hb3)
              have HBW := Lib.hid (below_then hbw.out HB3.out)
              clear hb3
              have HO3 := Lib.hid (own_later ho.out HB3.out)
              go_wp2_with (at_builtin; first | (refine wpList_push elIt rfl (.tmp 64) (.tmp 68) rfl rfl rfl HO3.out rfl rfl (by have := HL1.out; simp only [maxLen]; omega) (by have := HL1.out; omega) HBW.out.size ?_; intro v4 w4 own4 grow4 _blk4; have HO4 := Lib.hid (own_snoc (x := newI x) own4); have HB4 := Lib.hid (HBW.out.grown grow4 HBW.out.size (fun k hk => (HO3.out.lt k hk).1)); replace c0 := grown_cell grow4 c0 (fun e => by have := (HO3.out.lt b1 e).1; have := HB1L.out; omega); replace c1 := grown_cell grow4 c1 (fun e => by have := (HO3.out.lt b1 e).1; have := HB1L.out; omega); replace c2 := grown_cell grow4 c2 (fun e => by have := (HO3.out.lt b1 e).1; have := HB1L.out; omega); clear own4 grow4 _blk4) | (refine wpList_push elIt rfl (.tmp 70) (.tmp 75) rfl rfl rfl HO4.out rfl rfl (by have := HL1.out; rw [List.length_append, List.length_singleton]; simp only [maxLen]; omega) (by have := HL1.out; rw [List.length_append, List.length_singleton]; omega) HB4.out.size ?_; intro v5 w5 own5 grow5 _blk5; have HO5 := Lib.hid (own_snoc (x := y) own5); have HB5 := Lib.hid (HB4.out.grown grow5 HB4.out.size (fun k hk => (HO4.out.lt k hk).1)); clear own5 grow5 _blk5))
              go_wp2_with fail
              go_roundw
              case rel => exact ⟨k + 1, true, _, by omega, by go_num, rfl, HO5.out, ⟨by have := HEQ.out; rw [List.append_assoc, List.append_assoc]; exact this, by have := HLE.out; simp at *; omega⟩, HB5.out⟩
              case measure => simp [intOf]; omega
          · rw [if_neg (by simp)] at heq'
            have HEQ := Lib.hid heq'
            have HLS := Lib.hid hl
            clear heq' hl
            go_wp2_with fail
            refine (refSameR_any _ _ y.row x.row _ HV.out HXR.out).mono ?_
            rintro e w2 ⟨rfl, hb2⟩
            rw [HS.out]
            replace c0 := cell_later hb2 c0
            replace c1 := cell_later hb2 c1
            replace c2 := cell_later hb2 c2
            have HB2 := Lib.hid hb2
            clear hb2
            go_wp2_with fail
            refine (refLessR_any _ _ x.row y.row _ (HXR.out.later HB2.out) (HV.out.later HB2.out)).mono ?_
            rintro e w3 ⟨rfl, hb3⟩
            rw [HLS.out]
            replace c0 := cell_later hb3 c0
            replace c1 := cell_later hb3 c1
            replace c2 := cell_later hb3 c2
            have HB3 := Lib.hid (below_then HB2.out hb3)
            have HBW := Lib.hid (below_then hbw.out HB3.out)
            clear hb3
            have HO3 := Lib.hid (own_later ho.out HB3.out)
            go_wp2_with (at_builtin; refine wpList_push elIt rfl (.tmp 70) (.tmp 75) rfl rfl rfl HO3.out rfl rfl (by have := HL1.out; simp only [maxLen]; omega) (by have := HL1.out; omega) HBW.out.size ?_; intro v4 w4 own4 grow4 _blk4; have HO4 := Lib.hid (own_snoc (x := y) own4); have HB4 := Lib.hid (HBW.out.grown grow4 HBW.out.size (fun k hk => (HO3.out.lt k hk).1)); clear own4 grow4 _blk4)
            go_wp2_with fail
            go_roundw
            case rel => exact ⟨k + 1, true, _, by omega, by go_num, rfl, HO4.out, ⟨by have := HEQ.out; rw [List.append_assoc]; exact this, by have := HLE.out; simp at *; omega⟩, HB4.out⟩
            case measure => simp [intOf]; omega
    · have hkn : k = n := by omega
      subst hkn
      have heq' := heq.out.1
      rw [List.drop_of_length_le (by have := HLN.out; omega)] at heq'
      cases d
      · cases hm : (x.many != 0)
        · rw [show putF x false [] = [] by unfold putF; rw [if_neg (by simpa using hm)], List.append_nil] at heq'
          have HEQ := Lib.hid heq'
          clear heq'
          go_wp2_with fail
          go_ret
          exact ⟨_, rfl, by rw [← HEQ.out]; exact ho.out, hbw.out⟩
        · rw [show putF x false [] = [newI x] by unfold putF; rw [if_pos ⟨rfl, by simpa using hm⟩]] at heq'
          have HEQ := Lib.hid heq'
          clear heq'
          go_wp2_with (at_builtin; refine wpList_push elIt rfl (.tmp 83) (.tmp 87) rfl rfl rfl ho.out rfl rfl (by have := HL1.out; simp only [maxLen]; omega) (by have := HL1.out; omega) hbw.out.size ?_; intro v4 w4 own4 grow4 _blk4; have HO4 := Lib.hid (own_snoc (x := newI x) own4); have HB4 := Lib.hid (hbw.out.grown grow4 hbw.out.size (fun k hk => (ho.out.lt k hk).1)); clear own4 grow4 _blk4)
          go_wp2_with fail
          go_ret
          exact ⟨_, rfl, by rw [← HEQ.out]; exact HO4.out, HB4.out⟩
      · rw [show putF x true [] = [] by unfold putF; rw [if_neg (by simp)], List.append_nil] at heq'
        have HEQ := Lib.hid heq'
        clear heq'
        go_wp2_with fail
        go_ret
        exact ⟨_, rfl, by rw [← HEQ.out]; exact ho.out, hbw.out⟩
end Go.Proofs.Ytgmemdhbnnhifaa
