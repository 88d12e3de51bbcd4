/-
  Layer 3 (row): rows' bytes, the row of bytes: walks.
-/
import Derived.Test.YtliokkoalkhpaaaRP
namespace Go.Proofs.Ytliokkoalkhpaaa
open Go.RowKit Go.Sort Go.BigFrame

theorem flat_snoc {α : Type} {enc : α → List UInt8} {l : List α} {k : Nat} {p : List UInt8} (hk : k < l.length) : p ++ (l.take k).flatMap enc ++ enc l[k] = p ++ (l.take (k + 1)).flatMap enc := by
  rw [List.take_succ_eq_append_getElem hk, List.flatMap_append]
  simp

theorem rowCs_snoc (l : List Val) (v : Val) : rowCs (l ++ [v]) = rowCs l ++ v.cs := by simp [rowCs]

/-- An append of one element that was just built. -/
theorem wpList_push' {P : Program} {w : World} {ops : Array Oper} {rest : List Oper} {o : Oper} {a : Act} {Q : Exit → Act → World → Prop}
    {t e : TypeId} {size bytes : Nat} {z : Value} (T : El P t e size bytes z)
    (hg : o.guard = none) (s x : Operand) (hop : o.op = Op.call { callee := Callee.builtin Builtin.append, args := #[s, x], argTypes := #[t, t] })
    {B : Nat} {v : Value} {n g : Nat} {cs : Array Value} {xs : List Value} (hsv : a.eval s = v) (hxy : a.eval x = .slice (some ⟨g, 0, none⟩) 1 1) (hgw : w.heap.size = g) (hown : w.ownsRow B e size v n xs) (hcs : cs.size = size) (h1 : cs.toList.all (fun u => u.oneCell') = true)
    (h63 : n + 1 ≤ maxLen) (hbytes : (n + 1) * bytes ≤ 140737488355328) (hB : B ≤ w.heap.size)
    (hK : ∀ v' w', w'.ownsRow B e size v' (n + 1) (xs ++ cs.toList) → w.grownBy w' v.ownBlock → (∀ k, v'.ownBlock = some k → v.ownBlock = some k ∨ w.heap.size ≤ k) → wpList P ops Q rest (a.put o.dst v') w') :
    wpList P ops Q (o :: rest) a (w.alloc (.cells cs e)) := by
  subst hgw
  exact wpList_push T hg s x hop hsv hxy hown hcs h1 h63 hbytes hB hK

set_option maxRecDepth 100000 in
set_option maxHeartbeats 400000 in
theorem bytesR_any (v : Value) (l : List Val) (w : World) (h : Rd w v l.length (rowCs l)) (hs : l.length ≤ 1000000000) (hr : allR l = true) :
    Calls Try.prog 61 #[v] w (OwnB w (bytesR l)) := by
  obtain ⟨ao, c, rfl, hna, hma, _, _⟩ := id h
  have HA := Lib.hid h
  have HR := Lib.hid (fun k (hk : k < l.length) => (List.all_eq_true.1 hr) l[k] (List.getElem_mem hk))
  have HQ := Lib.hid hr
  clear h hr hma
  go_enter Try.func61, Try.ntmps61
  go_wp2_with fail
  refine (put_any _ _ (by omega) (by omega)).mono ?_
  rintro e w1 ⟨v1, rfl, hown1, hb1⟩
  have hpl := put_len (l.length : Int)
  go_wp2_with fail
  go_loopw [3, 11] (fun out i wr => ∃ (k : Nat) (xs : List UInt8), k ≤ l.length ∧ i = .int .i64 k ∧ Hid (xs = put l.length ++ (l.take k).flatMap bytesV) ∧ wr.ownsRow w.heap.size 5 1 out xs.length (xs.map bc) ∧ Below w.heap.size w wr) (fun _ i _ => l.length - (intOf i).toNat)
  case atStart => exact ⟨0, _, Nat.zero_le _, rfl, by simp [Hid], hown1, hb1⟩
  case round =>
    obtain ⟨k, xs, hk, rfl, HX, hown, hb⟩ := hrel
    have hxl : xs.length ≤ 10 + 211 * l.length := by
      have h1 := flatV_len (l.take k) (by rw [List.all_eq_true]; intro x hx; exact (List.all_eq_true.1 HQ.out) x (List.mem_of_mem_take hx))
      have h2 := List.length_take_le k l
      rw [HX.out, List.length_append]
      omega
    by_cases hlt : k < l.length
    · obtain ⟨b1, o1, hi1, c0, c1, c2, _⟩ := rd_val (HA.out.later hb) rfl k hlt
      have hx := HR.out k hlt
      have hp2 := bytesV_len hx
      have HXR := Lib.hid hx
      clear hx
      go_wp2_with fail
      refine (bytesV_any l[k] _ HXR.out).mono ?_
      rintro e w2 ⟨v2, rfl, hown2, hb2⟩
      replace hb2 := below_alloc_then hb2
      have hown' := own_later hown hb2
      have hb' := hb.trans (hb2.mono hb.size)
      go_wp2_with (at_builtin; refine wpList_app elB ⟨_, elB.ty, fun k h => nomatch h⟩ rfl _ _ rfl rfl rfl hown' (Src.of_rd (Rd.of_own hown2) (by simp)) (oneCell_bytes _) (by unfold maxLen; omega) (by omega) hb'.size ?_; intro v3 w3 hown3 hgrow3 hblk3)
      go_roundw
      case rel => exact ⟨k + 1, xs ++ bytesV l[k], by omega, by go_num, by unfold Hid; rw [HX.out]; exact flat_snoc hlt, own_bytes hown3 (by simp) (by simp), below_own hb' hown' (Nat.le_refl _) hgrow3⟩
      case measure => simp [intOf]; omega
    · have hkl : k = l.length := by omega
      have HK := Lib.hid hkl
      clear hkl
      go_wp2_with fail
      go_ret
      have e : xs = bytesR l := by rw [HX.out, HK.out, List.take_length]; rfl
      rw [← e]
      exact ⟨_, rfl, hown, hb⟩

set_option maxRecDepth 100000 in
set_option maxHeartbeats 400000 in
theorem refBytesR_any (v : Value) (l : List Val) (w : World) (h : Rd w v l.length (rowCs l)) (hs : l.length ≤ 1000000000) (hr : allR l = true) :
    Calls Try.prog 63 #[v] w (OwnB w (bytesR l)) := by
  obtain ⟨ao, c, rfl, hna, hma, _, _⟩ := id h
  have HA := Lib.hid h
  have HR := Lib.hid (fun k (hk : k < l.length) => (List.all_eq_true.1 hr) l[k] (List.getElem_mem hk))
  have HQ := Lib.hid hr
  clear h hr hma
  go_enter Try.func63, Try.ntmps63
  go_wp2_with fail
  refine (refPut_any _ _ (by omega) (by omega)).mono ?_
  rintro e w1 ⟨v1, rfl, hown1, hb1⟩
  have hpl := put_len (l.length : Int)
  go_wp2_with fail
  go_loopw [3, 4] (fun out i wr => ∃ (k : Nat) (xs : List UInt8), k ≤ l.length ∧ i = .int .i64 k ∧ Hid (xs = put l.length ++ (l.take k).flatMap bytesV) ∧ wr.ownsRow w.heap.size 5 1 out xs.length (xs.map bc) ∧ Below w.heap.size w wr) (fun _ i _ => l.length - (intOf i).toNat)
  case atStart => exact ⟨0, _, Nat.zero_le _, rfl, by simp [Hid], hown1, hb1⟩
  case round =>
    obtain ⟨k, xs, hk, rfl, HX, hown, hb⟩ := hrel
    have hxl : xs.length ≤ 10 + 211 * l.length := by
      have h1 := flatV_len (l.take k) (by rw [List.all_eq_true]; intro x hx; exact (List.all_eq_true.1 HQ.out) x (List.mem_of_mem_take hx))
      have h2 := List.length_take_le k l
      rw [HX.out, List.length_append]
      omega
    by_cases hlt : k < l.length
    · obtain ⟨b1, o1, hi1, c0, c1, c2, _⟩ := rd_val (HA.out.later hb) rfl k hlt
      have hx := HR.out k hlt
      have hp2 := bytesV_len hx
      have HXR := Lib.hid hx
      clear hx
      go_wp2_with fail
      refine (refBytesV_any l[k] _ HXR.out).mono ?_
      rintro e w2 ⟨v2, rfl, hown2, hb2⟩
      have hown' := own_later hown hb2
      have hb' := hb.trans (hb2.mono hb.size)
      go_wp2_with (at_builtin; refine wpList_app elB ⟨_, elB.ty, fun k h => nomatch h⟩ rfl _ _ rfl rfl rfl hown' (Src.of_rd (Rd.of_own hown2) (by simp)) (oneCell_bytes _) (by unfold maxLen; omega) (by omega) hb'.size ?_; intro v3 w3 hown3 hgrow3 hblk3)
      go_roundw
      case rel => exact ⟨k + 1, xs ++ bytesV l[k], by omega, by go_num, by unfold Hid; rw [HX.out]; exact flat_snoc hlt, own_bytes hown3 (by simp) (by simp), below_own hb' hown' (Nat.le_refl _) hgrow3⟩
      case measure => simp [intOf]; omega
    · have hkl : k = l.length := by omega
      have HK := Lib.hid hkl
      clear hkl
      go_wp2_with fail
      go_ret
      have e : xs = bytesR l := by rw [HX.out, HK.out, List.take_length]; rfl
      rw [← e]
      exact ⟨_, rfl, hown, hb⟩

end Go.Proofs.Ytliokkoalkhpaaa
