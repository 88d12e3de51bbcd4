/-
  Layer 24 (zset): the document's answer: Of.
-/
import Derived.Test.YtgmemdhbnnhifaaZT
namespace Go.Proofs.Ytgmemdhbnnhifaa
open Go.RowKit Go.Sort Go.BigFrame

theorem putF_none (x : It) : ∀ {l : List It}, (∀ y ∈ l, y.row ≠ x.row) → putF x true l = l
  | [], _ => by unfold putF; simp
  | y :: l, h => by
    rw [putF_cons, if_neg (h y (by simp)), if_neg (by simp), putF_none x fun z hz => h z (by simp [hz])]

theorem putF_mem (x : It) : ∀ (d : Bool) (l : List It), ∀ z ∈ putF x d l, (RowOf z x ∨ ∃ y ∈ l, RowOf z y) ∧ ((z.ba = none ∧ z.bn = 0 ∧ z.bc = 0) ∨ z ∈ l)
  | d, [], z, hz => by
    unfold putF at hz
    split at hz
    · rw [List.mem_singleton.1 hz]; exact ⟨.inl ⟨rfl, rfl, rfl, rfl⟩, .inl ⟨rfl, rfl, rfl⟩⟩
    · cases hz
  | d, y :: l, z, hz => by
    rw [putF_cons] at hz
    have ih : ∀ d, z ∈ putF x d l → (RowOf z x ∨ ∃ u ∈ y :: l, RowOf z u) ∧ ((z.ba = none ∧ z.bn = 0 ∧ z.bc = 0) ∨ z ∈ y :: l) := fun d h => by
      obtain ⟨h1, h2⟩ := putF_mem x d l z h
      exact ⟨h1.imp id fun ⟨u, hu, hr⟩ => ⟨u, by simp [hu], hr⟩, h2.imp id fun h => by simp [h]⟩
    split at hz
    · rcases List.mem_append.1 hz with hz | hz
      · split at hz
        · rw [List.mem_singleton.1 hz]; exact ⟨.inr ⟨y, by simp, rfl, rfl, rfl, rfl⟩, .inl ⟨rfl, rfl, rfl⟩⟩
        · cases hz
      · exact ih _ hz
    · split at hz
      · rcases List.mem_append.1 hz with hz | hz
        · split at hz
          · rw [List.mem_singleton.1 hz]; exact ⟨.inl ⟨rfl, rfl, rfl, rfl⟩, .inl ⟨rfl, rfl, rfl⟩⟩
          · cases hz
        · rcases List.mem_cons.1 hz with rfl | hz
          · exact ⟨.inr ⟨z, by simp, rfl, rfl, rfl, rfl⟩, .inr (by simp)⟩
          · exact ih _ hz
      · rcases List.mem_cons.1 hz with rfl | hz
        · exact ⟨.inr ⟨z, by simp, rfl, rfl, rfl, rfl⟩, .inr (by simp)⟩
        · exact ih _ hz

theorem nrm_cons {x : Pr} {l : List Pr} (h : Nrm l) (h1 : ∀ y ∈ l, lessR x.1 y.1 = true) (h2 : x.2 ≠ 0) (h3 : w64 x.2 = x.2) : Nrm (x :: l) :=
  ⟨List.pairwise_cons.2 ⟨h1, h.rise⟩, fun y hy => (List.mem_cons.1 hy).elim (fun e => by rw [e]; exact h2) (h.some y), fun y hy => (List.mem_cons.1 hy).elim (fun e => by rw [e]; exact h3) (h.fit y)⟩

theorem putF_ok (x : It) (hx : w64 x.many = x.many) : ∀ {l : List It}, Nrm (l.map It.p) → Nrm ((putF x false l).map It.p) ∧ ∀ r, w64 (tot ((putF x false l).map It.p) r) = w64 (tot (l.map It.p) r + if x.row = r then x.many else 0)
  | [], h => by
    unfold putF
    by_cases hm : x.many = 0
    · rw [if_neg (by simp [hm])]
      refine ⟨h, fun r => ?_⟩
      simp only [List.map_nil, tot, hm, ite_self, Int.add_zero]
    · rw [if_pos ⟨rfl, hm⟩]
      refine ⟨⟨List.pairwise_singleton _ _, fun y hy => ?_, fun y hy => ?_⟩, fun r => ?_⟩
      · rw [List.mem_singleton.1 hy]; exact hm
      · rw [List.mem_singleton.1 hy]; exact hx
      · simp only [List.map_cons, List.map_nil, tot, Int.add_zero, Int.zero_add]; rfl
  | y :: l, h => by
    have ht : Nrm (l.map It.p) := Nrm.tail (x := y.p) h
    have hup : ∀ z ∈ l, lessR y.row z.row = true := fun z hz => (List.pairwise_cons.1 h.rise).1 z.p (List.mem_map_of_mem hz)
    rw [putF_cons]
    by_cases he : y.row = x.row
    · rw [if_pos he, putF_none x fun z hz e => lessR_ne (hup z hz) (he.trans e.symm)]
      by_cases hz : w64 (y.many + x.many) = 0
      · rw [if_neg (by simpa using hz), List.nil_append]
        refine ⟨ht, fun r => ?_⟩
        simp only [List.map_cons, tot]
        by_cases hr : x.row = r
        · rw [if_pos (he.trans hr), if_pos hr]
          have e : y.many + tot (l.map It.p) r + x.many = (y.many + x.many) + tot (l.map It.p) r := by omega
          rw [e, ← w64_add_left, hz, Int.zero_add]
        · rw [if_neg (fun e => hr (he.symm.trans e)), if_neg hr]; congr 1; omega
      · rw [if_pos (by simpa using hz)]
        refine ⟨nrm_cons ht (fun z hz => ?_) hz (w64_idem _), fun r => ?_⟩
        · obtain ⟨u, hu, rfl⟩ := List.mem_map.1 hz; exact hup u hu
        · simp only [List.singleton_append, List.map_cons, tot]
          show w64 ((if y.row = r then w64 (y.many + x.many) else 0) + tot (l.map It.p) r) = w64 ((if y.row = r then y.many else 0) + tot (l.map It.p) r + if x.row = r then x.many else 0)
          by_cases hr : x.row = r
          · rw [if_pos (he.trans hr), if_pos (he.trans hr), if_pos hr, w64_add_left]; congr 1; omega
          · rw [if_neg (fun e => hr (he.symm.trans e)), if_neg (fun e => hr (he.symm.trans e)), if_neg hr]; congr 1; omega
    · rw [if_neg he]
      by_cases hl : lessR x.row y.row = true
      · rw [if_pos ⟨hl, rfl⟩, putF_none x fun z hz e => by
          have := lessR_trans hl (hup z hz); rw [e, lessR_irrefl] at this; cases this]
        by_cases hm : x.many = 0
        · rw [if_neg (by simpa using hm), List.nil_append]
          refine ⟨h, fun r => ?_⟩
          rw [hm, ite_self, Int.add_zero]
        · rw [if_pos (by simpa using hm)]
          refine ⟨nrm_cons h (fun z hz => ?_) hm hx, fun r => ?_⟩
          · rcases List.mem_cons.1 hz with rfl | hz
            · exact hl
            · obtain ⟨u, hu, rfl⟩ := List.mem_map.1 hz; exact lessR_trans hl (hup u hu)
          · simp only [List.singleton_append, List.map_cons, tot]
            show w64 ((if x.row = r then x.many else 0) + _) = _
            congr 1; omega
      · rw [if_neg (fun e => hl e.1)]
        obtain ⟨i1, i2⟩ := putF_ok x hx ht
        have hyx : lessR y.row x.row = true := by
          rcases total_cases y.row x.row with ⟨hs, _, _⟩ | ⟨_, hl', _⟩ | ⟨_, _, hl'⟩
          · exact absurd (of_decide_eq_true hs) he
          · exact hl'
          · exact absurd hl' hl
        refine ⟨nrm_cons i1 (fun z hz => ?_) (h.some y.p (by simp)) (h.fit y.p (by simp)), fun r => ?_⟩
        · obtain ⟨u, hu, rfl⟩ := List.mem_map.1 hz
          rcases (putF_mem x false l u hu).1 with hr | ⟨v, hv, hr⟩
          · show lessR y.row u.row = true
            rw [hr.2.2.2]; exact hyx
          · show lessR y.row u.row = true
            rw [hr.2.2.2]; exact hup v hv
        · simp only [List.map_cons, tot]
          rw [← w64_add_right, i2 r, w64_add_right]; congr 1; omega

/-- All put, one behind the other. -/
def ofF (l : List It) : List It := l.foldl (fun O x => putF x false O) []

theorem ofF_next (l : List It) (k : Nat) (hk : k < l.length) : ofF (l.take (k + 1)) = putF l[k] false (ofF (l.take k)) := by
  unfold ofF
  rw [List.take_succ_eq_append_getElem hk, List.foldl_append]; rfl

theorem Of1.next {l C : List It} (h : Of1 l C) (x : It) (hx : w64 x.many = x.many) : Of1 (l ++ [x]) (putF x false C) := by
  obtain ⟨h1, h2⟩ := putF_ok x hx h.nrm
  refine ⟨h1, fun r => ?_, fun z hz => ?_, ?_, fun z hz => ?_⟩
  · have := h.cnt r
    unfold Go.Proofs.Ytgmemdhbnnhifaa.cnt at this ⊢
    rw [h2 r, List.map_append, tot_app, ← w64_add_left, this, w64_add_left]
    congr 1
    simp only [List.map_cons, List.map_nil, tot, Int.add_zero]
  · rcases (putF_mem x false C z hz).2 with h' | h'
    · exact h'
    · exact h.nby z h'
  · have := putF_length x false C
    have := h.few
    simp at *; omega
  · rcases (putF_mem x false C z hz).1 with h' | ⟨y, hy, h'⟩
    · exact ⟨x, by simp, h'⟩
    · obtain ⟨u, hu, hr⟩ := h.rows y hy
      refine ⟨u, by simp [hu], h'.1.trans hr.1, h'.2.1.trans hr.2.1, h'.2.2.1.trans hr.2.2.1, h'.2.2.2.trans hr.2.2.2⟩

theorem ofF_ok (l : List It) (hf : ∀ x ∈ l, w64 x.many = x.many) : ∀ k, k ≤ l.length → Of1 (l.take k) (ofF (l.take k))
  | 0, _ => by
    rw [List.take_zero]
    exact ⟨⟨List.Pairwise.nil, (fun x hx => nomatch hx), (fun x hx => nomatch hx)⟩, fun r => rfl, (fun x hx => nomatch hx), Nat.le_refl _, (fun x hx => nomatch hx)⟩
  | k + 1, hk => by
    have := (ofF_ok l hf k (by omega)).next l[k] (hf _ (List.getElem_mem _))
    rw [ofF_next l k hk, List.take_succ_eq_append_getElem hk]
    exact this

set_option maxRecDepth 100000 in
set_option maxHeartbeats 4000000 in
theorem refOf_any (va : Value) (l : List It) (w : World) (ha : IRd w va l) (hn : l.length ≤ 1000000) (hfit : ∀ x ∈ l, w64 x.many = x.many) :
    Calls Try.prog 17 #[va] w (OfPost w l) := by
  obtain ⟨ao, c, rfl, hnc, hcm, _, _⟩ := id ha.1
  obtain ⟨n, hln⟩ : ∃ n, l.length = n := ⟨_, rfl⟩
  have HA := Lib.hid ha
  have HLN := Lib.hid hln
  have HF := Lib.hid hfit
  rw [hln] at hnc hn
  rw [hln]
  unfold maxLen at hcm
  clear ha hln hfit
  go_enter Try.func17, Try.ntmps17
  go_wp2_with fail
  go_loopw [3, 4] (fun vo vi wr => ∃ k : Nat, k ≤ n ∧ vi = .int .i64 k ∧ Hid (OwnI wr w.heap.size vo (ofF (l.take k))) ∧ Hid (Below w.heap.size w wr)) (fun _ vi _ => n - (intOf vi).toNat)
  case atStart => exact ⟨0, Nat.zero_le _, rfl, World.ownsRow_nil _ _ _ _, Below.refl _ _⟩
  case round =>
    obtain ⟨k, hk, rfl, ho, hbw⟩ := hrel
    rename World => wr
    by_cases hlt : k < n
    · have hkl : k < l.length := by have := HLN.out; omega
      obtain ⟨b1, o1, x1, c0, c1, c2, hb1l⟩ := rd_it (HA.out.1.later hbw.out) rfl k hkl
      rw [HLN.out] at x1
      have hv := (HA.out.2 _ (List.getElem_mem hkl)).later hbw.out
      have hok := ofF_ok l HF.out k (by omega)
      have hnx := ofF_next l k hkl
      obtain ⟨x, hx⟩ : ∃ x, l[k] = x := ⟨_, rfl⟩
      rw [hx] at c0 c1 c2 hnx hv
      have HNX := Lib.hid hnx
      have hlen : (ofF (l.take k)).length ≤ 1000000 := by have := hok.few; rw [List.length_take] at this; omega
      have hird := OwnI.ird ho.out (hok.vit fun y hy => (HA.out.2 y (List.mem_of_mem_take hy)).later hbw.out)
      have hput := fun w1 hb1 => put2_any _ x _ w1 (IRd.later hird hb1) (Vit.later hv hb1) hlen
      have HP := Lib.hid hput
      clear hput hird hok hv hx hnx hlen
      go_wp2_with fail
      go_region_held3? (fun w' => w'.cell? ⟨b1, o1, none⟩ = some (.slice x.ra x.rn x.rc) ∧ w'.cell? ⟨b1, o1 + 1, none⟩ = some (.int .i64 x.many)) (first | go_keep | exact ⟨cell_later HB1.out c0, cell_later HB1.out c1⟩) ((go_at_call 36; refine (HP.out _ (below_of_drew (Below.refl _ _))).mono ?_; rintro e w1 ⟨v1, rfl, ho1, hb1⟩; have HB1 : Hid (Below wr.heap.size wr w1) := below_of_drew hb1; have HO1 := Lib.hid ho1; clear hb1 ho1))
      go_wp2_with fail
      go_roundw
      case rel => exact ⟨k + 1, by omega, by go_num, by rw [HNX.out]; exact own_mono HO1.out hbw.out.size, below_then hbw.out HB1.out⟩
      case measure => simp [intOf]; omega
    · have hkn : k = n := by omega
      subst hkn
      have hok := ofF_ok l HF.out k (by have := HLN.out; omega)
      rw [List.take_of_length_le (by have := HLN.out; omega)] at hok ho
      have HOK := Lib.hid hok
      clear hok
      go_wp2_with fail
      go_ret
      exact ⟨_, _, rfl, ho.out, HOK.out, hbw.out⟩
end Go.Proofs.Ytgmemdhbnnhifaa
