/-
  Layer 17 (tx): the document's SameOps. (printed by tools/gen_uy.py)
-/
import Derived.Test.YtnolbabpkhdpmaaGreatTH
import Derived.Test.YtnolbabpkhdpmaaGreatS
namespace Go.Proofs.YtnolbabpkhdpmaaGreat
open Go.RowKit Go.Sort Go.BigFrame

section
variable {l m : List OpM} {k : Nat} {r : Bool} {x y : OpM}
theorem sameOps_stop (hk : k < l.length) (hk' : k < m.length) (hx : l[k] = x) (hy : m[k] = y) (hr : r = true ↔ l.map OpM.op = m.map OpM.op) (h : x.op ≠ y.op) : r = false := by
  cases r with
  | false => rfl
  | true =>
    have h1 := hr.1 rfl
    have h2 : (l.map OpM.op)[k]? = (m.map OpM.op)[k]? := by rw [h1]
    rw [List.getElem?_map, List.getElem?_map, List.getElem?_eq_getElem hk, List.getElem?_eq_getElem hk', hx, hy] at h2
    simp at h2
    exact absurd h2 h
theorem sameOps_next (hk : k < l.length) (hk' : k < m.length) (hx : l[k] = x) (hy : m[k] = y) (ht : (l.take k).map OpM.op = (m.take k).map OpM.op) (h : x.op = y.op) : (l.take (k + 1)).map OpM.op = (m.take (k + 1)).map OpM.op := by
  rw [List.take_succ_eq_append_getElem hk, List.take_succ_eq_append_getElem hk', List.map_append, List.map_append, ht, hx, hy]
  simp [h]
theorem sameOps_end (hl : l.length = m.length) (ht : (l.take l.length).map OpM.op = (m.take l.length).map OpM.op) (hr : r = true ↔ l.map OpM.op = m.map OpM.op) : r = true := by
  rw [List.take_length, hl, List.take_length] at ht
  exact hr.2 ht
theorem sameOps_len (hl : l.length ≠ m.length) (hr : r = true ↔ l.map OpM.op = m.map OpM.op) : r = false := by
  cases r with
  | false => rfl
  | true => exact absurd (by have := congrArg List.length (hr.1 rfl); simpa using this) hl
end
theorem refSameR_b {va vb : Value} {l m : List Val} {w : World} (b : Bool) (hb : sameR l m = b) (ha : Rd w va l.length (rowCs l)) (hb' : Rd w vb m.length (rowCs m)) :
    Calls Tryz.prog 89 #[va, vb] w fun e w' => e = .returned (.bool b) ∧ Below w.heap.size w w' := hb ▸ refSameR_any va vb l m w ha hb'

set_option maxRecDepth 100000 in
set_option maxHeartbeats 16000000 in
theorem sameOps_any (r : Bool) (va vb : Value) (l m : List OpM) (w : World) (ha : ORd w va l) (hb : ORd w vb m) (hr : r = true ↔ l.map OpM.op = m.map OpM.op) :
    Calls Tryz.prog 67 #[va, vb] w fun e w' => e = .returned (.bool r) ∧ Below w.heap.size w w' := by
  obtain ⟨ao, cc, rfl, hnc, hcm, _, _⟩ := id ha.1
  obtain ⟨bo, cd, rfl, hnd, hdm, _, _⟩ := id hb.1
  have HA := Lib.hid ha
  have HBB := Lib.hid hb
  have HR := Lib.hid hr
  unfold maxLen at hcm hdm
  obtain ⟨n, hln⟩ : ∃ n, l.length = n := ⟨_, rfl⟩
  obtain ⟨n2, hlm⟩ : ∃ n, m.length = n := ⟨_, rfl⟩
  rw [hln] at hnc
  rw [hlm] at hnd
  have HLN := Lib.hid hln
  have HLM := Lib.hid hlm
  rw [hln, hlm]
  clear ha hb hr hln hlm
  by_cases hq : n = n2
  · subst hq
    have HLL : Hid (l.length = m.length) := HLN.out.trans HLM.out.symm
    have hnn : ((n : Int) != (n : Int)) = false := by simp
    go_enter Tryz.func67, Tryz.ntmps67
    go_wp2_with fail
    go_loopw [5] (fun vi wr => ∃ k : Nat, k ≤ n ∧ vi = .int .i64 k ∧ Hid ((l.take k).map OpM.op = (m.take k).map OpM.op) ∧ Hid (Below w.heap.size w wr)) (fun vi _ => n - (intOf vi).toNat)
    case atStart => exact ⟨0, Nat.zero_le _, rfl, rfl, Below.refl _ _⟩
    case round =>
      obtain ⟨k, hk, rfl, HT, hb⟩ := hrel
      rename World => wr
      by_cases hlt : k < n
      · have hkl : k < l.length := by have := HLN.out; omega
        have hkm : k < m.length := by have := HLM.out; omega
        obtain ⟨x, hx⟩ : ∃ x, l[k] = x := ⟨_, rfl⟩
        obtain ⟨y, hy⟩ : ∃ y, m[k] = y := ⟨_, rfl⟩
        obtain ⟨b1, o1, x1, c0, c1, c2, c3, c4, c5, c6, c7, c8, c9, c10, _⟩ := rd_op (HA.out.later hb.out).1 rfl k hkl hx
        obtain ⟨b2, o2, x2, d0, d1, d2, d3, d4, d5, d6, d7, d8, d9, d10, _⟩ := rd_op (HBB.out.later hb.out).1 rfl k hkm hy
        rw [HLN.out] at x1
        rw [HLM.out] at x2
        have hrx : Rd wr x.rv x.op.row.length (rowCs x.op.row) := (HA.out.later hb.out).2 x (hx ▸ List.getElem_mem hkl)
        have hry : Rd wr y.rv y.op.row.length (rowCs y.op.row) := (HBB.out.later hb.out).2 y (hy ▸ List.getElem_mem hkm)
        obtain ⟨ra, rc, hrv, -, hrm, -, -⟩ := id hrx
        obtain ⟨sa, sc, hsv, -, hsm, -, -⟩ := id hry
        unfold maxLen at hrm hsm
        rw [hrv] at c4 hrx
        rw [hsv] at d4 hry
        have HST : Hid (x.op ≠ y.op → r = false) := fun h => sameOps_stop hkl hkm hx hy HR.out h
        have HNX : Hid (x.op = y.op → (l.take (k + 1)).map OpM.op = (m.take (k + 1)).map OpM.op) := fun h => sameOps_next hkl hkm hx hy HT.out h
        clear hx hy hrv hsv
        obtain ⟨⟨xk, xt, xy, xc, xr, ⟨vk, vn, vs⟩, ⟨xa, xb⟩, xi⟩, xv⟩ := x
        obtain ⟨⟨yk, yt, yy, yc, yr, ⟨uk, un, us⟩, ⟨ya, yb⟩, yi⟩, yv⟩ := y
        dsimp only at c0 c1 c2 c3 c4 c5 c6 c7 c8 c9 c10 d0 d1 d2 d3 d4 d5 d6 d7 d8 d9 d10 hrx hry HST HNX
        have HRX := Lib.hid hrx
        have HRY := Lib.hid hry
        clear hrx hry
        by_cases hq : xk = yk
        · subst hq
          by_cases hq : xt = yt
          · subst hq
            by_cases hq : xy = yy
            · subst hq
              by_cases hq : xc = yc
              · subst hq
                by_cases hq : xa = ya
                · subst hq
                  by_cases hq : xb = yb
                  · subst hq
                    by_cases hq : xi = yi
                    · subst hq
                      by_cases hq : vk = uk
                      · subst hq
                        by_cases hq : vn = un
                        · subst hq
                          by_cases hq : vs = us
                          · subst hq
                            cases hs : sameR xr yr
                            all_goals
                              have HS := Lib.hid hs
                            · have HF := Lib.hid (HST.out (fun h => by injection h with _ _ _ _ h1; rw [h1] at hs; simp at hs))
                              clear hs
                              go_wp2_with fail
                              refine (refSameR_b false HS.out (HRX.out.later (below_alloc_then (below_alloc _ _))) (HRY.out.later (below_alloc_then (below_alloc _ _)))).mono ?_
                              rintro e w2 ⟨rfl, hb2⟩
                              have HB2 := Lib.hid (below_then hb.out (below_alloc_then (below_alloc_then hb2)))
                              clear hb2
                              go_wp2_with fail
                              go_ret
                              exact ⟨ret_bool HF.out.symm, HB2.out⟩
                            · have HN := Lib.hid (HNX.out (by rw [of_decide_eq_true hs]))
                              clear hs
                              go_wp2_with fail
                              refine (refSameR_b true HS.out (HRX.out.later (below_alloc_then (below_alloc _ _))) (HRY.out.later (below_alloc_then (below_alloc _ _)))).mono ?_
                              rintro e w2 ⟨rfl, hb2⟩
                              have HB2 := Lib.hid (below_then hb.out (below_alloc_then (below_alloc_then hb2)))
                              clear hb2
                              go_wp2_with fail
                              go_roundw
                              case rel => exact ⟨k + 1, by omega, by go_num, HN.out, HB2.out⟩
                              case measure => simp [intOf]; omega
                          · have HF := Lib.hid (HST.out (fun h => by injection h; simp_all))
                            have hne : (vs.toList == us.toList) = false := beq_eq_false_iff_ne.2 (fun e => hq (by rw [ByteArray.toList_eq, ByteArray.toList_eq, Array.toList_inj] at e; exact ByteArray.ext e))
                            clear hq
                            go_wp2_with fail
                            go_ret
                            exact ⟨ret_bool HF.out.symm, below_then hb.out (below_alloc_then (below_alloc _ _))⟩
                        · have HF := Lib.hid (HST.out (fun h => by injection h; simp_all))
                          have hne : (vn == un) = false := beq_eq_false_iff_ne.2 hq
                          have hne' : (vn != un) = true := by rw [bne, hne]; rfl
                          clear hq
                          go_wp2_with fail
                          go_ret
                          exact ⟨ret_bool HF.out.symm, below_then hb.out (below_alloc_then (below_alloc _ _))⟩
                      · have HF := Lib.hid (HST.out (fun h => by injection h; simp_all))
                        have hne : (vk == uk) = false := beq_eq_false_iff_ne.2 hq
                        have hne' : (vk != uk) = true := by rw [bne, hne]; rfl
                        clear hq
                        go_wp2_with fail
                        go_ret
                        exact ⟨ret_bool HF.out.symm, below_then hb.out (below_alloc_then (below_alloc _ _))⟩
                    · have HF := Lib.hid (HST.out (fun h => by injection h; simp_all))
                      have hne : (xi == yi) = false := beq_eq_false_iff_ne.2 hq
                      have hne' : (xi != yi) = true := by rw [bne, hne]; rfl
                      clear hq
                      go_wp2_with fail
                      go_ret
                      exact ⟨ret_bool HF.out.symm, below_then hb.out (below_alloc_then (below_alloc _ _))⟩
                  · have HF := Lib.hid (HST.out (fun h => by injection h; simp_all))
                    have hne : (xb == yb) = false := beq_eq_false_iff_ne.2 hq
                    have hne' : (xb != yb) = true := by rw [bne, hne]; rfl
                    clear hq
                    go_wp2_with fail
                    go_ret
                    exact ⟨ret_bool HF.out.symm, below_then hb.out (below_alloc_then (below_alloc _ _))⟩
                · have HF := Lib.hid (HST.out (fun h => by injection h; simp_all))
                  have hne : (xa == ya) = false := beq_eq_false_iff_ne.2 hq
                  have hne' : (xa != ya) = true := by rw [bne, hne]; rfl
                  clear hq
                  go_wp2_with fail
                  go_ret
                  exact ⟨ret_bool HF.out.symm, below_then hb.out (below_alloc_then (below_alloc _ _))⟩
              · have HF := Lib.hid (HST.out (fun h => by injection h; simp_all))
                have hne : (xc == yc) = false := beq_eq_false_iff_ne.2 hq
                have hne' : (xc != yc) = true := by rw [bne, hne]; rfl
                clear hq
                go_wp2_with fail
                go_ret
                exact ⟨ret_bool HF.out.symm, below_then hb.out (below_alloc_then (below_alloc _ _))⟩
            · have HF := Lib.hid (HST.out (fun h => by injection h; simp_all))
              have hne : (xy == yy) = false := beq_eq_false_iff_ne.2 hq
              have hne' : (xy != yy) = true := by rw [bne, hne]; rfl
              clear hq
              go_wp2_with fail
              go_ret
              exact ⟨ret_bool HF.out.symm, below_then hb.out (below_alloc_then (below_alloc _ _))⟩
          · have HF := Lib.hid (HST.out (fun h => by injection h; simp_all))
            have hne : (xt == yt) = false := beq_eq_false_iff_ne.2 hq
            have hne' : (xt != yt) = true := by rw [bne, hne]; rfl
            clear hq
            go_wp2_with fail
            go_ret
            exact ⟨ret_bool HF.out.symm, below_then hb.out (below_alloc_then (below_alloc _ _))⟩
        · have HF := Lib.hid (HST.out (fun h => by injection h; simp_all))
          have hne : (xk == yk) = false := beq_eq_false_iff_ne.2 hq
          have hne' : (xk != yk) = true := by rw [bne, hne]; rfl
          clear hq
          go_wp2_with fail
          go_ret
          exact ⟨ret_bool HF.out.symm, below_then hb.out (below_alloc_then (below_alloc _ _))⟩
      · have hkn : k = n := by omega
        have HF : Hid (r = true) := sameOps_end HLL.out (by rw [HLN.out, ← hkn]; exact HT.out) HR.out
        clear hkn
        go_wp2_with fail
        go_ret
        exact ⟨ret_bool HF.out.symm, hb.out⟩
  · have hnn : ((n : Int) != (n2 : Int)) = true := by simp; omega
    have HF := Lib.hid (sameOps_len (by rw [HLN.out, HLM.out]; exact hq) HR.out)
    go_enter Tryz.func67, Tryz.ntmps67
    go_wp2_with fail
    go_ret
    exact ⟨ret_bool HF.out.symm, Below.refl _ _⟩
end Go.Proofs.YtnolbabpkhdpmaaGreat
