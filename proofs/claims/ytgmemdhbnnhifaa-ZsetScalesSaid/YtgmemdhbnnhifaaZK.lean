/-
  Layer 24 (zset): items put together: Of.
-/
import Derived.Test.YtgmemdhbnnhifaaZJ
namespace Go.Proofs.Ytgmemdhbnnhifaa
open Go.RowKit Go.Sort Go.BigFrame

/-- An item of another one's row. -/
def RowOf (x y : It) : Prop := x.ra = y.ra ∧ x.rn = y.rn ∧ x.rc = y.rc ∧ x.row = y.row
theorem RowOf.vit {x y : It} (h : RowOf x y) {w : World} (hv : Vit w y) : Vit w x := by
  obtain ⟨h1, h2, h3, h4⟩ := h
  unfold Vit at *
  rw [h1, h2, h3, h4]; exact hv

/-- Items that are put together: rows rise, none is there nought times, none has a By; each row as often as in l. -/
structure Of1 (l C : List It) : Prop where
  nrm : Nrm (C.map It.p)
  cnt : ∀ r, cnt (C.map It.p) r = cnt (l.map It.p) r
  nby : ∀ x ∈ C, x.ba = none ∧ x.bn = 0 ∧ x.bc = 0
  few : C.length ≤ l.length
  rows : ∀ x ∈ C, ∃ y ∈ l, RowOf x y
theorem Of1.vit {l C : List It} (h : Of1 l C) {w : World} (hv : ∀ y ∈ l, Vit w y) : ∀ x ∈ C, Vit w x := fun x hx => by
  obtain ⟨y, hy, hr⟩ := h.rows x hx
  exact hr.vit (hv y hy)
theorem Of1.fit {l C : List It} (h : Of1 l C) : ∀ x ∈ C, w64 x.many = x.many := fun x hx => h.nrm.fit _ (List.mem_map_of_mem hx)

def OfPost (w : World) (l : List It) (e : Ending) (w' : World) : Prop :=
  ∃ v' C, e = .returned v' ∧ OwnI w' w.heap.size v' C ∧ Of1 l C ∧ Below w.heap.size w w'

/-- What Of's loop keeps. -/
structure OfR (B pb k : Nat) (v0 : Value) (ls : List It) (w w1 wr : World) (v' : Value) (acc : List It) : Prop where
  bag : BagAt B pb v0 v' acc wr
  inv : AccInv acc (ls.take k) (ls.drop k)
  len : acc.length ≤ k
  rows : ∀ x ∈ acc, ∃ y ∈ ls, RowOf x y
  below : Below w.heap.size w wr
  but : But (fun j => j = pb ∨ B ≤ j) w1 wr

/-- An item put to a bag, whichever it is. -/
theorem put_any {B pb k : Nat} {v0 v' : Value} {ls acc : List It} {w w1 wr : World} (h : OfR B pb k v0 ls w w1 wr v' acc) (hk : k < ls.length) (hv : ∀ x ∈ ls, Vit w x) (hpb : w.heap.size ≤ pb) (hB : w1.heap.size ≤ B) (hBr : B ≤ wr.heap.size) (hn : ls.length ≤ 1000000) (hB' : w.heap.size ≤ B) :
    Calls Try.prog 33 #[.pointer (some ⟨pb, 0, none⟩), ls[k].agg] wr fun e w' => e = .returned (.tuple #[]) ∧ ∃ v'' acc', OfR B pb (k + 1) v0 ls w w1 w' v'' acc' := by
  have hx : ls[k] ∈ ls := List.getElem_mem hk
  have hdrop : ls.drop k = ls[k] :: ls.drop (k + 1) := List.drop_eq_getElem_cons hk
  have htake : ls.take (k + 1) = ls.take k ++ [ls[k]] := List.take_succ_eq_append_getElem hk
  have hinv := h.inv
  rw [hdrop] at hinv
  have hvx := (hv _ hx).later h.below
  have key : ∀ acc', AccInv acc' (ls.take k ++ [ls[k]]) (ls.drop (k + 1)) → acc'.length ≤ k + 1 → (∀ x ∈ acc', ∃ y ∈ ls, RowOf x y) → ∀ e w', PutPost B pb v0 v' acc' wr e w' → e = .returned (.tuple #[]) ∧ ∃ v'' acc', OfR B pb (k + 1) v0 ls w w1 w' v'' acc' := by
    intro acc' hi hl hvi e w' ⟨he, v'', hbag, hbut, _⟩
    refine ⟨he, v'', acc', ⟨hbag, by rw [htake]; exact hi, hl, hvi, ?_, ?_⟩⟩
    · refine h.below.trans ((hbut.below (B := w.heap.size) h.below.size fun j hj => ?_))
      rcases hj with rfl | hj
      · exact hpb
      · have := (h.bag.2.lt j hj).1; omega
    · refine h.but.trans hbut fun j hj hj' => ?_
      rcases hj' with rfl | hj'
      · exact .inl rfl
      · exact .inr (h.bag.2.lt j hj').1
  rcases List.eq_nil_or_concat acc with rfl | ⟨l0, y, rfl⟩
  · refine (put_first B pb v0 v' ls[k] wr h.bag hBr).mono fun e w' hp => key _ ?_ (by simp) ?_ e w' hp
    · exact hinv.first
    · intro x hx'
      rw [List.nil_append, List.mem_singleton] at hx'
      subst hx'; exact ⟨_, hx, rfl, rfl, rfl, rfl⟩
  · rw [List.concat_eq_append] at h hinv
    obtain ⟨y0, hy0, hyr⟩ := h.rows y (by simp)
    have hyv : Vit w y := hyr.vit (hv y0 hy0)
    have hl0 := h.len
    simp only [List.length_append, List.length_singleton] at hl0
    by_cases he : y.row = ls[k].row
    · refine (put_same B pb v0 v' l0 y ls[k] wr h.bag (hyv.later h.below) hvx he (by omega)).mono fun e w' hp => key _ (hinv.same he) (by simp; omega) ?_ e w' hp
      intro x hx'
      rcases List.mem_append.1 hx' with hx' | hx'
      · exact h.rows x (by simp [hx'])
      · rw [List.mem_singleton] at hx'
        subst hx'; exact ⟨y0, hy0, hyr⟩
    · refine (put_next B pb v0 v' l0 y ls[k] wr h.bag hBr (hyv.later h.below) hvx he (by omega)).mono fun e w' hp => key _ (hinv.next he) (by simp; omega) ?_ e w' hp
      intro x hx'
      rcases List.mem_append.1 hx' with hx' | hx'
      · exact h.rows x hx'
      · rw [List.mem_singleton] at hx'
        subst hx'; exact ⟨_, hx, rfl, rfl, rfl, rfl⟩

theorem isort_asc (l : List It) : (isortL (ltC cmpIt) l).Pairwise fun x y => lessR y.row x.row = false := by
  have h : Asc (ltC cmpIt) (isortL (ltC cmpIt) l) := isortL_asc swoIt l
  exact List.Pairwise.imp (fun {a b} hab => by rw [← ltC_cmpIt]; exact hab) h

theorem own_mono {w : World} {B B' : Nat} {e : TypeId} {size : Nat} {v : Value} {n : Nat} {xs : List Value} (h : w.ownsRow B e size v n xs) (hB : B' ≤ B) : w.ownsRow B' e size v n xs := by
  refine ⟨h.1, ?_⟩
  rcases h.2 with h | ⟨g, cap, cur, rfl, h1, h2⟩
  · exact .inl h
  · exact .inr ⟨g, cap, cur, rfl, Nat.le_trans hB h1, h2⟩

theorem OfR.later {B pb k : Nat} {v0 : Value} {ls : List It} {w w1 wr w2 : World} {v' : Value} {acc : List It} (h : OfR B pb k v0 ls w w1 wr v' acc) (hb : Below wr.heap.size wr w2) : OfR B pb k v0 ls w w1 w2 v' acc :=
  ⟨h.bag.later hb, h.inv, h.len, h.rows, below_then h.below hb, h.but.trans (But.of_below (S := fun _ => False) hb) (fun _ _ h => h.elim)⟩

set_option maxRecDepth 100000 in
set_option maxHeartbeats 2000000 in
theorem of_any (va : Value) (l : List It) (w : World) (h : IRd w va l) (hn : l.length ≤ 1000000) (hfit : ∀ x ∈ l, w64 x.many = x.many) :
    Calls Try.prog 16 #[va] w (OfPost w l) := by
  obtain ⟨ao, c, rfl, hnc, hcm, _, _⟩ := id h.1
  obtain ⟨n, hln⟩ : ∃ n, l.length = n := ⟨_, rfl⟩
  have HA := Lib.hid h
  have HLN := Lib.hid hln
  have HN := Lib.hid hn
  have HF := Lib.hid hfit
  rw [hln] at hn hnc ⊢
  unfold maxLen at hcm
  have hb0 := below_alloc w (.cells #[.slice ao n c, .slice none 0 0] 47)
  have hsort := sorted_any _ l (w.alloc (.cells #[.slice ao n c, .slice none 0 0] 47)) (h.later hb0) HN.out
  rw [hln] at hsort
  have HS := Lib.hid hsort
  have HB0 := Lib.hid hb0
  clear h hln hfit hb0 hsort
  go_enter Try.func16, Try.ntmps16
  go_wp2_with fail
  refine HS.out.mono ?_
  rintro e w1 ⟨v1, rfl, hr1, hb1, hbk⟩
  obtain ⟨a1, c1, rfl, hn1, hm1, _, _⟩ := id hr1
  obtain ⟨ls, hls⟩ : ∃ ls, isortL (ltC cmpIt) l = ls := ⟨_, rfl⟩
  have hlen : ls.length = n := by rw [← hls, isortL_length]; exact HLN.out
  have hperm : ls.Perm l := by rw [← hls]; exact isortL_perm l
  have hasc := isort_asc l
  rw [hls] at hr1 hasc
  have hvs : ∀ x ∈ ls, Vit w x := fun x hx => HA.out.2 x (hperm.mem_iff.1 hx)
  have hsz : w.heap.size < w1.heap.size := by have := hb1.size; simp at this; omega
  have hS0 : OfR w1.heap.size w.heap.size 0 (.slice ao n c) ls w w1 w1 (.slice none 0 0) [] := by
    refine ⟨⟨?_, World.ownsRow_nil _ _ _ _⟩, ⟨List.Pairwise.nil, fun r => rfl, (fun x hx => nomatch hx), (fun x hx => nomatch hx), (fun x hx => nomatch hx), hasc, fun x hx => HF.out x (hperm.mem_iff.1 hx)⟩, Nat.zero_le _, (fun x hx => nomatch hx), below_then HB0.out hb1, But.refl _ _⟩
    rw [hb1.block _ (by simp)]
    exact heap_alloc_new w _
  have hr : ∀ wr, But (fun j => j = w.heap.size ∨ w1.heap.size ≤ j) w1 wr → Rd wr (.slice a1 n c1) n (itCs ls) := by
    intro wr hbut
    refine Rd.but hr1 hbut fun a ha hS => ?_
    have hk := hbk a.block (by rw [ha]; simp [Value.ownBlock])
    simp at hk
    omega
  have HS0 := Lib.hid hS0
  have HR := Lib.hid hr
  have HVS := Lib.hid hvs
  have HLEN := Lib.hid hlen
  have HPERM := Lib.hid hperm
  have HSZ := Lib.hid hsz
  unfold maxLen at hm1
  clear hr1 hb1 hbk hlen hperm hasc hvs hsz hS0 hr hls HS HB0
  go_wp2_with fail
  go_loopw [13] (fun vi wr => ∃ k : Nat, k ≤ n ∧ vi = .int .i64 k ∧ Hid (∃ v' acc, OfR w1.heap.size w.heap.size k (.slice ao n c) ls w w1 wr v' acc)) (fun vi _ => n - (intOf vi).toNat)
  case atStart => exact ⟨0, Nat.zero_le _, rfl, _, _, HS0.out⟩
  case round =>
    obtain ⟨k, hk, rfl, hR⟩ := hrel
    rename World => wr
    obtain ⟨v', acc, R⟩ := hR.out
    clear hR
    by_cases hlt : k < n
    · have hkl : k < ls.length := by have := HLEN.out; omega
      obtain ⟨b1, o1, x1, c0, c1', c2, _⟩ := rd_it (HR.out wr R.but) HLEN.out.symm k hkl
      have hbx := below_alloc wr (.cells #[.slice ls[k].ra ls[k].rn ls[k].rc, .int .i64 ls[k].many, .slice ls[k].ba ls[k].bn ls[k].bc] 39)
      have hput := put_any (R.later hbx) hkl HVS.out (Nat.le_refl _) (Nat.le_refl _) (Nat.le_trans R.but.size hbx.size) (by rw [HLEN.out]; exact hn) (Nat.le_of_lt HSZ.out)
      have HP := Lib.hid hput
      obtain ⟨x, hx⟩ : ∃ x, ls[k] = x := ⟨_, rfl⟩
      rw [hx] at c0 c1' c2 HP
      clear hput hbx R hx
      go_wp2_with fail
      refine HP.out.mono ?_
      rintro e w2 ⟨rfl, hR2⟩
      have HR2 := Lib.hid hR2
      clear hR2
      go_wp2_with fail
      go_roundw
      case rel => exact ⟨k + 1, by omega, by go_num, HR2.out⟩
      case measure => simp [intOf]; omega
    · have hkn : k = n := by omega
      subst hkn
      have hcell := R.bag.cell
      have hinv := R.inv
      rw [List.take_of_length_le (by have := HLEN.out; omega), List.drop_of_length_le (by have := HLEN.out; omega)] at hinv
      have hdel := delete_any of1_ok w1.heap.size v' acc wr R.bag.2 (by have := R.len; omega)
      have HD := Lib.hid hdel
      have HI := Lib.hid hinv
      have HRR := Lib.hid R
      clear hdel hinv R
      go_wp2_with fail
      refine HD.out.mono ?_
      rintro e w3 ⟨v3, rfl, hown, hbut, hblk⟩
      have HO := Lib.hid hown
      have HBU := Lib.hid hbut
      clear hown hbut hblk
      go_wp2_with fail
      go_ret
      have hbel : Below w.heap.size w w3 := HRR.out.below.trans (HBU.out.below HRR.out.below.size fun j hj => by have := (HRR.out.bag.2.lt j hj).1; have := HSZ.out; omega)
      refine ⟨_, _, rfl, own_mono HO.out (Nat.le_of_lt HSZ.out), ⟨HI.out.nrm, fun r => ?_, fun x hx => HI.out.nby x (List.mem_filter.1 hx).1, ?_, fun x hx => ?_⟩, hbel⟩
      · rw [HI.out.cnt]
        exact congrArg w64 (tot_perm (HPERM.out.map It.p) r)
      · refine Nat.le_trans (List.length_filter_le _ _) (Nat.le_trans HRR.out.len ?_)
        rw [HLN.out]; exact Nat.le_refl _
      · obtain ⟨y, hy, hr⟩ := HRR.out.rows x (List.mem_filter.1 hx).1
        exact ⟨y, HPERM.out.mem_iff.1 hy, hr⟩
end Go.Proofs.Ytgmemdhbnnhifaa
