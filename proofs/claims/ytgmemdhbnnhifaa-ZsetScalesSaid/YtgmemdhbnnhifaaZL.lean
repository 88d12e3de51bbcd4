/-
  Layer 24 (zset): items that came in; the chapter's example; what the laws lean on.
-/
import Derived.Test.YtgmemdhbnnhifaaLN
import Derived.Test.YtgmemdhbnnhifaaZX
import Derived.Test.YtgmemdhbnnhifaaZW
namespace Go.Proofs.Ytgmemdhbnnhifaa
open Go.ChangeShapes Go.WideShapes Go.RowKit Go.Sort Go.BigFrame

instance : Inhabited Val := ⟨⟨0, 0, ⟨#[]⟩⟩⟩
theorem cellsStr : Try.prog.cellsOf 9 = 1 := by kernel_rfl
theorem cellsVal : Try.prog.cellsOf 57 = 3 := by kernel_rfl
theorem cellsIt : Try.prog.cellsOf 39 = 3 := by kernel_rfl
theorem cellsRow : Try.prog.cellsOf 24 = 1 := by kernel_rfl
theorem cellsDots : Try.prog.cellsOf 37 = 1 := by kernel_rfl

section
variable {H : Type} {enc : TypeId × Value → H} {W : World}

theorem open_val {n : Nat} {cs : List Value} {x : DataW H × List MemPlace} (h : DataW.trod enc Try.prog W 0 (fun _ => true) true n 57 cs = some x) (hl : cs.length = 3) : ∃ a : Val, cs = a.cs := by
  obtain ⟨y0, y1, y2, n, _, _, h0, h1, h2⟩ := Deep.trod_struct3 Try.underlying57 h
  match cs, hl with
  | [c0, c1, c2], _ =>
    obtain ⟨k, e0, _⟩ := DataW.trod_int Try.underlying3 h0
    obtain ⟨m, e1, _⟩ := DataW.trod_int Try.underlying3 h1
    obtain ⟨s, e2, _⟩ := DataW.trod_string Try.underlying9 h2
    simp [cellsInt, cellsStr] at e0 e1 e2
    exact ⟨⟨k, m, s⟩, by rw [e0, e1, e2]; rfl⟩

theorem open_it {n : Nat} {cs : List Value} {x : DataW H × List MemPlace} (h : DataW.trod enc Try.prog W 0 (fun _ => true) true n 39 cs = some x) (hl : cs.length = 3) : ∃ a : It, cs = enI a ∧ Vit W a ∧ w64 a.many = a.many := by
  obtain ⟨y0, y1, y2, n, _, _, h0, h1, h2⟩ := Deep.trod_struct3 Try.underlying39 h
  match cs, hl with
  | [c0, c1, c2], _ =>
    obtain ⟨ra, rc, l, e0, hr, _⟩ := trod_list (Q := fun _ => True) Val.cs 3 (fun _ => rfl) (by decide) elR.ty cellsVal (fun _ _ _ h hl => (open_val h hl).imp fun _ h => ⟨h, trivial⟩) h0
    obtain ⟨m, e1, _, hw⟩ := DataW.trod_int Try.underlying3 h1
    have e2 : ∃ ba bn bc, c2 = .slice ba bn bc := by
      rcases Deep.open_slice Try.underlying37 h2 with ⟨e, _⟩ | ⟨a, len, cap, _, _, _, _, e, _⟩
      · simp [cellsDots] at e; exact ⟨_, _, _, e⟩
      · simp [cellsDots] at e; exact ⟨_, _, _, e⟩
    obtain ⟨ba, bn, bc, rfl⟩ := e2
    simp [cellsInt, cellsRow] at e0 e1
    subst e0 e1
    refine ⟨⟨ra, l.length, rc, m, ba, bn, bc, l⟩, rfl, hr, ?_⟩
    have := wf_i64 hw
    show w64 m = m
    rw [w64_def]; omega

variable {v : Value} {d : DataW H} {p : List MemPlace} {base : Nat}

theorem open_row (hok : Value.okWide Try.prog W .any base 24 v) (h : DataW.Trod enc Try.prog W 0 (fun _ => true) true 24 v d p) : ∃ l : List Val, Rd W v l.length (rowCs l) :=
  open_list Val.cs 3 (fun _ => rfl) (by decide) elR.ty cellsVal (fun _ _ _ h hl => open_val h hl) hok h

/-- Items that came in. -/
theorem open_items (hok : Value.okWide Try.prog W .any base 22 v) (h : DataW.Trod enc Try.prog W 0 (fun _ => true) true 22 v d p) : ∃ l : List It, IRd W v l ∧ ∀ x ∈ l, w64 x.many = x.many := by
  obtain ⟨l, h1, h2⟩ := open_listQ enI 3 (fun _ => rfl) (by decide) elIt.ty cellsIt (fun _ _ _ h hl => open_it h hl) hok h
  exact ⟨l, ⟨h1, fun x hx => (h2 x hx).1⟩, fun x hx => (h2 x hx).2⟩
end

/-! ### What is known of what comes of it -/

def OfP (w : World) (l : List It) (e : Ending) (w' : World) : Prop :=
  ∃ ao c C, e = .returned (.slice ao C.length c) ∧ IRd w' (.slice ao C.length c) C ∧ Of1 l C ∧ Below w.heap.size w w'

theorem OfPost.p {w : World} {l : List It} {e : Ending} {w' : World} (h : OfPost w l e w') (hv : ∀ y ∈ l, Vit w y) : OfP w l e w' := by
  obtain ⟨v, C, he, ho, hc, hb⟩ := h
  obtain ⟨ao, c, rfl, _⟩ := Rd.of_own ho
  exact ⟨ao, c, C, he, OwnI.ird ho (hc.vit fun y hy => (hv y hy).later hb), hc, hb⟩

theorem of1_eq {l m C D : List It} (h : Of1 l C) (k : Of1 m D) (hh : ∀ r, cnt (l.map It.p) r = cnt (m.map It.p) r) : C.map It.p = D.map It.p :=
  nrm_unique h.nrm k.nrm fun r => by rw [h.cnt r, k.cnt r, hh r]
theorem of1_same {l m C D : List It} (h : Of1 l C) (k : Of1 m D) (hh : ∀ r, cnt (l.map It.p) r = cnt (m.map It.p) r) : sameI C D = true := decide_eq_true (of1_eq h k hh)

theorem nrm_nil : Nrm [] := ⟨List.Pairwise.nil, (fun x hx => nomatch hx), (fun x hx => nomatch hx)⟩
theorem of1_none {l C : List It} (h : Of1 l C) (hh : ∀ r, cnt (l.map It.p) r = 0) : C = [] := by
  have := nrm_unique h.nrm nrm_nil fun r => by rw [h.cnt r, hh r]; rfl
  simpa using this

theorem scl_map (q : Int) (l : List It) : (l.map (scaleI q)).map It.p = scl q (l.map It.p) := by
  unfold scl; rw [List.map_map, List.map_map]; rfl
theorem cnt_scale (q : Int) (l : List It) (r : List Val) : cnt ((l.map (scaleI q)).map It.p) r = w64 (cnt (l.map It.p) r * q) := by rw [scl_map, cnt_scl]
theorem cnt_add (a b : List It) (r : List Val) : cnt ((a ++ b).map It.p) r = w64 (cnt (a.map It.p) r + cnt (b.map It.p) r) := by rw [List.map_append, cnt_app]
theorem w64_neg (n : Int) : w64 (n + w64 (n * -1)) = 0 := by rw [w64_add_right, show n + n * -1 = 0 by omega, w64_zero]
theorem one_cnt0 {l : List It} {ra : Option Addr} {rn rc : Nat} {k : Int} {r s : List Val} (h : sameR r s = false) : w64 (cnt (l.map It.p) s + cnt (([⟨ra, rn, rc, k, none, 0, 0, r⟩] : List It).map It.p) s) = cnt (l.map It.p) s := by
  have hne : ¬ r = s := of_decide_eq_false h
  have : cnt (([⟨ra, rn, rc, k, none, 0, 0, r⟩] : List It).map It.p) s = 0 := by
    unfold cnt
    simp only [List.map_cons, List.map_nil, tot, if_neg hne]; rfl
  rw [this, Int.add_zero]; exact w64_idem _
theorem one_cnt1 {l : List It} {ra : Option Addr} {rn rc : Nat} {k : Int} {r s : List Val} (h : sameR r s = true) : w64 (cnt (l.map It.p) s + cnt (([⟨ra, rn, rc, k, none, 0, 0, r⟩] : List It).map It.p) s) = wrap64 (cnt (l.map It.p) s + k) := by
  have he : r = s := of_decide_eq_true h
  have : cnt (([⟨ra, rn, rc, k, none, 0, 0, r⟩] : List It).map It.p) s = w64 k := by
    unfold cnt
    simp only [List.map_cons, List.map_nil, tot, if_pos he, Int.add_zero]
  rw [this, w64_add_right, w64_wrap]
theorem cnt_fit (l : List Pr) (r : List Val) : w64 (cnt l r) = cnt l r := w64_idem _

/-- Items that are right. -/
theorem nrm_right {C : List It} (h : Nrm (C.map It.p)) (hb : ∀ x ∈ C, x.ba = none ∧ x.bn = 0 ∧ x.bc = 0) : RightP C := fun k hk => by
  refine ⟨C[k], List.getElem?_eq_getElem hk, h.some _ (List.mem_map_of_mem (List.getElem_mem hk)), (hb _ (List.getElem_mem hk)).2.1, fun y hk0 hy => ?_⟩
  rw [List.getElem?_eq_getElem (by omega)] at hy; cases hy
  have := List.pairwise_iff_getElem.1 h.rise (k - 1) k (by simp; omega) (by simpa using hk) (by omega)
  simpa using this

theorem right_pairs {C : List It} (h : RightP C) : C.Pairwise fun x y => lessR x.row y.row = true := by
  have key : ∀ d i (hi : i + d + 1 < C.length), lessR (C[i]'(by omega)).row (C[i + d + 1]'hi).row = true := by
    intro d
    induction d with
    | zero =>
      intro i hi
      obtain ⟨x, hx, _, _, h3⟩ := h (i + 1) hi
      have h4 := h3 (C[i]'(by omega)) (by omega) (List.getElem?_eq_getElem (by omega))
      rw [List.getElem?_eq_getElem hi] at hx; cases hx; exact h4
    | succ d ih =>
      intro i hi
      obtain ⟨x, hx, _, _, h3⟩ := h (i + (d + 1) + 1) hi
      have h4 := h3 (C[i + d + 1]'(by omega)) (by omega) (by rw [show i + (d + 1) + 1 - 1 = i + d + 1 by omega]; exact List.getElem?_eq_getElem (by omega))
      rw [List.getElem?_eq_getElem hi] at hx; cases hx
      exact lessR_trans (ih i (by omega)) h4
  refine List.pairwise_iff_getElem.2 fun i j hi hj hij => ?_
  have := key (j - i - 1) i (by omega)
  have e : i + (j - i - 1) + 1 = j := by omega
  simp only [e] at this
  exact this

theorem right_nrm {C : List It} (h : RightP C) (hf : ∀ x ∈ C, w64 x.many = x.many) : Nrm (C.map It.p) := by
  refine ⟨List.pairwise_map.2 (right_pairs h), fun x hx => ?_, fun x hx => ?_⟩
  · obtain ⟨y, hy, rfl⟩ := List.mem_map.1 hx
    obtain ⟨k, hk, rfl⟩ := List.getElem_of_mem hy
    obtain ⟨x, hx, h1, _⟩ := h k hk
    rw [List.getElem?_eq_getElem hk] at hx; cases hx; exact h1
  · obtain ⟨y, hy, rfl⟩ := List.mem_map.1 hx; exact hf y hy

theorem setI_p {C : List It} (h : Nrm (C.map It.p)) : (setI C).map It.p = ((C.map It.p).filter fun x => decide (0 < x.2)).map fun x => (x.1, 1) := by
  unfold setI
  have hs : ∀ x ∈ C, x.many ≠ 0 := fun x hx => h.some _ (List.mem_map_of_mem hx)
  clear h
  induction C with
  | nil => rfl
  | cons x C ih =>
    have ih := ih fun y hy => hs y (by simp [hy])
    have hx := hs x (by simp)
    by_cases hp : 0 < x.many
    · have e : (x :: C).map It.p = x.p :: C.map It.p := rfl
      rw [e, List.filter_cons_of_pos (by simp; omega), List.filter_cons_of_pos (a := x.p) (by simpa using hp), List.map_cons, List.map_cons, List.map_cons, ih]
    · have e : (x :: C).map It.p = x.p :: C.map It.p := rfl
      rw [e, List.filter_cons_of_neg (by simp; omega), List.filter_cons_of_neg (a := x.p) (by simpa using hp), ih]
theorem setF_p (C : List It) : (setF C).map It.p = ((C.map It.p).filter fun x => decide (0 < x.2)).map fun x => (x.1, 1) := by
  unfold setF
  induction C with
  | nil => rfl
  | cons x C ih =>
    by_cases hp : 0 < x.many
    · have e : (x :: C).map It.p = x.p :: C.map It.p := rfl
      rw [e, List.filter_cons_of_pos (by simpa using hp), List.filter_cons_of_pos (a := x.p) (by simpa using hp), List.map_cons, List.map_cons, List.map_cons, ih]; rfl
    · have e : (x :: C).map It.p = x.p :: C.map It.p := rfl
      rw [e, List.filter_cons_of_neg (by simpa using hp), List.filter_cons_of_neg (a := x.p) (by simpa using hp), ih]

/-- How often a row is there once each is there once. -/
theorem cnt_once {l : List Pr} (h : Nrm l) (r : List Val) : cnt ((l.filter fun x => decide (0 < x.2)).map fun x => (x.1, 1)) r = if 0 < cnt l r then 1 else 0 := by
  induction l with
  | nil => rfl
  | cons x l ih =>
    have hup : ∀ y ∈ l, lessR x.1 y.1 = true := (List.pairwise_cons.1 h.rise).1
    by_cases hr : x.1 = r
    · have hno : ∀ y ∈ l, y.1 ≠ r := fun y hy e => lessR_ne (hup y hy) (hr.trans e.symm)
      have h1 := h.head
      rw [hr] at h1
      rw [h1]
      have hno2 : ∀ y ∈ (l.filter fun x => decide (0 < x.2)).map (fun x => ((x.1, 1) : Pr)), y.1 ≠ r := fun y hy => by
        obtain ⟨z, hz, rfl⟩ := List.mem_map.1 hy
        exact hno z (List.mem_filter.1 hz).1
      by_cases hp : 0 < x.2
      · rw [List.filter_cons_of_pos (by simpa using hp), List.map_cons, if_pos hp]
        unfold cnt
        simp only [tot, hr, if_true]
        rw [tot_none hno2]; rfl
      · rw [List.filter_cons_of_neg (by simpa using hp), if_neg hp]
        unfold cnt
        rw [tot_none hno2]; rfl
    · have e : cnt (x :: l) r = cnt l r := by
        unfold cnt
        simp only [tot, if_neg hr, Int.zero_add]
      rw [e, ← ih h.tail]
      by_cases hp : 0 < x.2
      · rw [List.filter_cons_of_pos (by simpa using hp), List.map_cons]
        unfold cnt
        simp only [tot, if_neg hr, Int.zero_add]
      · rw [List.filter_cons_of_neg (by simpa using hp)]

def numR (n : Int) : List Val := [⟨1, n, ⟨#[]⟩⟩]

def NumPost (n : Int) (w : World) (e : Ending) (w' : World) : Prop := ∃ a, e = .returned (.slice (some a) 1 1) ∧ Rd w' (.slice (some a) 1 1) 1 (rowCs (numR n)) ∧ Below w.heap.size w w'

set_option maxRecDepth 100000 in
theorem num_any (n : Int) (w : World) : Calls Try.prog 28 #[.int .i64 n] w (NumPost n w) := by
  go_enter Try.func28, Try.ntmps28
  go_wp2
  go_ret
  exact ⟨_, rfl, rd_lit w _ _ 1 (by decide), below_alloc _ _⟩

def fewB (l : List It) : Bool := decide (l.length ≤ 30) && l.all fun x => decide (x.row.length ≤ 20)
theorem fewB_len {l : List It} (h : fewB l = true) : l.length ≤ 30 := by
  unfold fewB at h
  simp at h
  exact h.1

set_option maxRecDepth 100000 in
theorem few1_any (va : Value) (l : List It) (w : World) (ha : IRd w va l) :
    Calls Try.prog 10 #[va] w fun e w' => e = .returned (.bool (fewB l)) ∧ w = w' := by
  have HF := Lib.hid (few_any va l 30 w ha (by decide))
  clear ha
  go_enter Try.func10, Try.ntmps10
  go_wp2_with fail
  refine HF.out.mono ?_
  rintro e w' ⟨rfl, rfl⟩
  go_wp2_with fail
  go_ret
  exact ⟨rfl, rfl⟩
end Go.Proofs.Ytgmemdhbnnhifaa
