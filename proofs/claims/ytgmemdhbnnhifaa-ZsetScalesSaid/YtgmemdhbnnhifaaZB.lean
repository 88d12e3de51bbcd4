/-
  Layer 24 (zset): a copy of items; the stable sort of what the call owns.
-/
import Derived.Test.YtgmemdhbnnhifaaZA
import Derived.Test.YtgmemdhbnnhifaaSF3
import Derived.Test.YtgmemdhbnnhifaaRT
namespace Go.Proofs.Ytgmemdhbnnhifaa
open Go.RowKit Go.Sort Go.BigFrame

/-- What is handed back is a slice of the call's own, of n items of the cells xs. -/
def OwnPost (w : World) (n : Nat) (xs : List Value) (e : Ending) (w' : World) : Prop := ∃ v', e = .returned v' ∧ w'.ownsRow w.heap.size 39 3 v' n xs ∧ Below w.heap.size w w'

theorem run_eql_nil {P : Program} {t e : TypeId} (h : P.underlying t = some (.slice e)) (a : Option Addr) (n c n' c' : Nat) (w : World) : (binOp .eql t (.slice a n c) (.slice none n' c')).run P w = .ok (.bool a.isNone) w := by
  simp only [binOp]
  simp [Op.equal, Op.maxDepth, Lib.run_equalIn_slice_nil w 9999 t e a n c n' c' h]

theorem oneIt (l : List It) : ∀ u ∈ itCs l, u.oneCell' = true := by
  intro u hu
  obtain ⟨x, _, hx⟩ := List.mem_flatMap.1 hu
  simp only [enI, List.mem_cons, List.not_mem_nil, or_false] at hx
  rcases hx with rfl | rfl | rfl <;> rfl

set_option maxRecDepth 100000 in
set_option maxHeartbeats 1000000 in
theorem clone_any (v : Value) (l : List It) (w : World) (h : Rd w v l.length (itCs l)) (hn : l.length ≤ 1000000) :
    Calls Try.prog 38 #[v] w (OwnPost w l.length (itCs l)) := by
  obtain ⟨ao, c, rfl, hnc, hcm, hnone, _⟩ := id h
  have HA := Lib.hid h
  have HL := Lib.hid (itCs_length l)
  obtain ⟨n, hln⟩ : ∃ n, l.length = n := ⟨_, rfl⟩
  cases ao with
  | none =>
    have hc0 : c = 0 := hnone rfl
    have hl0 : l = [] := List.eq_nil_of_length_eq_zero (by omega)
    subst hl0 hc0
    clear h hnone hcm hnc
    have hnil := run_eql_nil (P := Try.prog) elIt.ty none 0 0 0 0
    simp only [Option.isNone_none] at hnil
    go_enter Try.func38, Try.ntmps38
    go_wp2
    go_ret
    exact ⟨_, rfl, World.ownsRow_nil _ _ _ _, Below.refl _ _⟩
  | some a =>
    rw [hln] at hnc hn ⊢
    have HLN := Lib.hid hln
    unfold maxLen at hcm
    clear h hnone hln
    have hnil := run_eql_nil (P := Try.prog) elIt.ty (some a) n c 0 0
    simp only [Option.isNone_some] at hnil
    go_enter Try.func38, Try.ntmps38
    have hown : (w.alloc (.cells #[] 39)).ownsRow w.heap.size 39 3 (.slice (some ⟨w.heap.size, 0, none⟩) 0 0) 0 [] := World.ownsRow_lit w #[] 0 (Nat.le_refl _) (by decide) rfl
    have hsrc : Src Try.prog (w.alloc (.cells #[] 39)) 3 (.slice (some a) n c) n (itCs l) := Src.of_rd (by have := HA.out.later (below_alloc w (.cells #[] 39)); rwa [HLN.out] at this) (by rw [HL.out, HLN.out])
    go_wp2_with (at_builtin; refine wpList_app elIt ⟨_, elIt.ty, fun k h => by cases h⟩ rfl (.tmp 5) (.tmp 6) rfl rfl rfl hown hsrc (oneIt l) (by simp only [maxLen]; omega) (by omega) (by simp) ?_; intro v' w' own' grow' blk')
    have hb := (below_alloc w (.cells #[] 39)).grown grow' (by simp) (fun k hk => (hown.lt k hk).1)
    have HO := Lib.hid own'
    have HB := Lib.hid hb
    clear own' grow' blk' hb hown hsrc
    go_wp2_with fail
    go_ret
    refine ⟨_, rfl, ?_, HB.out⟩
    have := HO.out
    rwa [Nat.zero_add, List.nil_append] at this

theorem ltC_cmpIt (x y : It) : ltC cmpIt x y = lessR x.row y.row := by
  unfold ltC cmpIt
  cases h1 : lessR x.row y.row
  · cases h2 : lessR y.row x.row <;> simp
  · simp

theorem lessR_ntrans {l m n : List Val} (h : lessR l m = false) (h' : lessR m n = false) : lessR l n = false := by
  cases hb : lessR l n with
  | false => rfl
  | true =>
    rcases total_cases l m with ⟨hs, _, _⟩ | ⟨_, h1, _⟩ | ⟨_, _, h1⟩
    · have := of_decide_eq_true hs
      subst this
      rw [hb] at h'; cases h'
    · rw [h1] at h; cases h
    · have := lessR_trans h1 hb
      rw [this] at h'; cases h'

theorem swoIt : SWO (ltC cmpIt) where
  irrefl x := by rw [ltC_cmpIt]; exact lessR_irrefl
  trans x y z h1 h2 := by rw [ltC_cmpIt] at *; exact lessR_trans h1 h2
  ntrans x y z h1 h2 := by rw [ltC_cmpIt] at *; exact lessR_ntrans h1 h2

theorem holds_own {w : World} {B g cap : Nat} {l : List It} {T : TypeId} (h : w.ownsRow B T 3 (.slice (some ⟨g, 0, none⟩) l.length cap) l.length (itCs l)) : HoldsK enI 3 w g 0 l.toArray := by
  intro j hj
  rw [size_flatK] at hj
  have hj' : j < l.length * 3 := by simpa using hj
  have hi : j / 3 < l.length := by omega
  have hc := h.cellAt j hj'
  have hf := h.frozenAt j
  rw [Nat.zero_add, get_flatK _ _ _ _ hj, hc]
  refine ⟨?_, hf⟩
  obtain ⟨r0, r1, r2⟩ := itCs_at l (j / 3) hi
  have hg : l.toArray[j / 3]! = l[j / 3] := by
    rw [getElem!_pos l.toArray (j / 3) (by simpa using hi)]; simp
  rw [hg]
  have hr : j % 3 = 0 ∨ j % 3 = 1 ∨ j % 3 = 2 := by omega
  rcases hr with hr | hr | hr
  · rw [show j / 3 * 3 = j by omega] at r0
    rw [hr, r0]; rfl
  · rw [show j / 3 * 3 + 1 = j by omega] at r1
    rw [hr, r1]; rfl
  · rw [show j / 3 * 3 + 2 = j by omega] at r2
    rw [hr, r2]; rfl

/-- The row of a sort as a slice that reads so. -/
theorem SB.rdI {w0 : World} {blk n : Nat} {l0 l : List It} {W : World} (h : SB enI 3 w0 blk 0 l W) (R : Rw enI 3 w0 blk 0 n l0) (hl : l.length = n) {cap : Nat} (hcap : n ≤ cap) (hcm : cap ≤ maxLen) : Rd W (.slice (some ⟨blk, 0, none⟩) n cap) n (itCs l) := by
  refine ⟨_, _, rfl, hcap, hcm, (fun h => nomatch h), fun a ha => ?_⟩
  cases ha
  intro j u hj
  have hj' : j < l.length * 3 := by
    rw [← itCs_length]
    rcases Nat.lt_or_ge j (itCs l).length with h | h
    · exact h
    · rw [List.getElem?_eq_none h] at hj; cases hj
  have hi : j / 3 < l.length := by omega
  have e : l = l.take (j / 3) ++ l[j / 3] :: l.drop (j / 3 + 1) := by rw [← List.drop_eq_getElem_cons hi, List.take_append_drop]
  have h' := h
  rw [e] at h'
  obtain ⟨c0, c1, c2, _⟩ := h'.cell3 R (by rw [← e]; exact hl) (i := j / 3) (by rw [List.length_take]; omega) rfl
  obtain ⟨r0, r1, r2⟩ := itCs_at l (j / 3) hi
  have ha : (⟨blk, 0, none⟩ : Addr).add j = ⟨blk, 0 + j, none⟩ := by simp [Addr.add]; omega
  rw [ha]
  have hr : j = j / 3 * 3 ∨ j = j / 3 * 3 + 1 ∨ j = j / 3 * 3 + 2 := by omega
  rcases hr with hr | hr | hr
  · rw [← hr] at r0 c0
    rw [r0] at hj; cases hj; exact c0
  · rw [← hr] at r1
    rw [Nat.add_assoc, ← hr] at c1
    rw [r1] at hj; cases hj; exact c1
  · rw [← hr] at r2
    rw [Nat.add_assoc, ← hr] at c2
    rw [r2] at hj; cases hj; exact c2

set_option maxRecDepth 100000 in
theorem insertion_nil (f : Value) (w : World) : Calls Try.prog 50 #[.slice none 0 0, .int .i64 0, .int .i64 0, f] w fun e w' => e = .returned (.tuple #[]) ∧ w = w' := by
  go_enter Try.func50, Try.ntmps50
  go_wp2
  go_loop [8] (fun vi => vi = .int .i64 1) (fun _ => 0)
  case atStart => rfl
  case round =>
    obtain rfl := hrel
    go_wp2
    go_end0
    exact ⟨rfl, rfl⟩

set_option maxRecDepth 100000 in
theorem stable_nil (f : Value) (w : World) : Calls Try.prog 49 #[.slice none 0 0, .int .i64 0, f] w fun e w' => e = .returned (.tuple #[]) ∧ w = w' := by
  go_enter Try.func49, Try.ntmps49
  go_wp2
  go_loop [7, 8] (fun va vb => va = .int .i64 0 ∧ vb = .int .i64 20) (fun _ _ => 0)
  case atStart => exact ⟨rfl, rfl⟩
  case round =>
    obtain ⟨rfl, rfl⟩ := hrel
    go_wp2_with fail
    refine (insertion_nil _ _).mono ?_
    rintro e w' ⟨rfl, rfl⟩
    go_wp2_with fail
    go_loop [6] (fun vs => vs = .int .i64 20) (fun _ => 0)
    case atStart => rfl
    case round =>
      obtain rfl := hrel
      go_wp2
      go_end0
      exact ⟨rfl, rfl⟩

def SortPost (wa : World) (v : Value) (l : List It) (w : World) (e : Ending) (w' : World) : Prop := e = .returned (.tuple #[]) ∧ Rd w' v l.length (itCs (isortL (ltC cmpIt) l)) ∧ Below wa.heap.size wa w' ∧ w.heap.size ≤ w'.heap.size

set_option maxRecDepth 100000 in
set_option maxHeartbeats 1000000 in
theorem sortI_any (wa : World) (B : Nat) (v : Value) (l : List It) (w : World) (hown : w.ownsRow B 39 3 v l.length (itCs l)) (hab : Below wa.heap.size wa w) (hB : wa.heap.size ≤ B) (hv : ∀ x ∈ l, Vit wa x) (hn : l.length ≤ 1000000) :
    Calls Try.prog 44 #[v, .func (.func 45) #[] #[]] w (SortPost wa v l w) := by
  have hc : Calls Try.prog 49 #[v, .int .i64 l.length, .func (.func 45) #[] #[]] w (SortPost wa v l w) := by
    rcases hown.2 with ⟨rfl, hnil⟩ | ⟨g, cap, cur, rfl, hbg, hg, hnc, hcm, hcs, htake⟩
    · have hl : l = [] := by
        have := hown.1
        rw [hnil] at this
        exact List.eq_nil_of_length_eq_zero (by simp at this; omega)
      subst hl
      refine (stable_nil _ w).mono ?_
      rintro e w' ⟨rfl, rfl⟩
      exact ⟨rfl, ⟨none, 0, rfl, Nat.le_refl _, Nat.zero_le _, fun _ => rfl, fun a ha => by cases ha⟩, hab, Nat.le_refl _⟩
    · have hrow : Rw enI 3 w g 0 l.length l := ⟨fun _ => rfl, fun x u hu => by
        simp only [enI, List.mem_cons, List.not_mem_nil, or_false] at hu
        rcases hu with rfl | rfl | rfl <;> rfl, holds_own hown, (Array.getElem?_eq_some_iff.1 hg).1, rfl⟩
      have hC : CmpOk 45 #[] cmpIt (fun x => Vit wa x) w g 0 l.length l := by
        refine ⟨hrow, hn, enters_of Try.func45 (by kernel_rfl) rfl, ?_, swoIt⟩
        intro l' W hl' hsb x y hx hy
        have hbW := hsb.old hab (by omega)
        exact sorted1_any x y W (hx.later hbW) (hy.later hbW)
      refine (stable_any hC hv w hrow.start cap).mono ?_
      rintro e w' ⟨rfl, hs⟩
      refine ⟨rfl, hs.rdI hrow (isortL_length _) hnc hcm, hs.old hab (by omega), hs.le⟩
  have HC := Lib.hid hc
  obtain ⟨ao, cap, rfl, _⟩ := Rd.of_own hown
  clear hc hown hab hB hv
  go_enter Try.func44, Try.ntmps44
  go_wp2_with fail
  refine HC.out.mono ?_
  rintro e w' ⟨rfl, h⟩
  have H := Lib.hid h
  clear h
  go_wp2_with fail
  go_end0
  exact ⟨rfl, H.out⟩
end Go.Proofs.Ytgmemdhbnnhifaa
