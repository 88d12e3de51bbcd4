/-
  Layer 17 (tx): slices.Clone at vectors; vector.Trim.
-/
import Derived.Test.YtnolbabpkhdpmaaGreatTH
namespace Go.Proofs.YtnolbabpkhdpmaaGreat
open Go.RowKit Go.Sort Go.BigFrame

theorem run_eql_nil {P : Program} {t e : TypeId} (h : P.underlying t = some (.slice e)) (a : Option Addr) (n c n' c' : Nat) (w : World) : (binOp .eql t (.slice a n c) (.slice none n' c')).run P w = .ok (.bool a.isNone) w := by
  simp only [binOp]
  simp [Op.equal, Op.maxDepth, Lib.run_equalIn_slice_nil w 9999 t e a n c n' c' h]

abbrev OwnV (w : World) (B : Nat) (v : Value) (l : List Int) : Prop := w.ownsRow B 3 1 v l.length (l.map ic)
def OwnPostV (w : World) (l : List Int) (e : Ending) (w' : World) : Prop := ∃ v', e = .returned v' ∧ OwnV w' w.heap.size v' l ∧ Below w.heap.size w w'
theorem oneV (l : List Int) : ∀ u ∈ l.map ic, u.oneCell' = true := by
  intro u hu
  obtain ⟨x, _, rfl⟩ := List.mem_map.1 hu
  rfl

set_option maxRecDepth 100000 in
set_option maxHeartbeats 1000000 in
theorem cloneV_any (v : Value) (l : List Int) (w : World) (h : Rd w v l.length (l.map ic)) (hn : l.length ≤ 1000000) :
    Calls Tryz.prog 58 #[v] w (OwnPostV w l) := by
  obtain ⟨ao, c, rfl, hnc, hcm, hnone, _⟩ := id h
  have HA := Lib.hid h
  have HL : Hid ((l.map ic).length = l.length * 1) := (by show _ = _; simp)
  obtain ⟨n, hln⟩ : ∃ n, l.length = n := ⟨_, rfl⟩
  cases ao with
  | none =>
    have hc0 : c = 0 := hnone rfl
    have hl0 : l = [] := List.eq_nil_of_length_eq_zero (by omega)
    subst hl0 hc0
    clear h hnone hcm hnc
    have hnil := run_eql_nil (P := Tryz.prog) elVec.ty none 0 0 0 0
    simp only [Option.isNone_none] at hnil
    go_enter Tryz.func58, Tryz.ntmps58
    go_wp2
    go_ret
    exact ⟨_, rfl, World.ownsRow_nil _ _ _ _, Below.refl _ _⟩
  | some a =>
    rw [hln] at hnc hn ⊢
    have HLN := Lib.hid hln
    unfold maxLen at hcm
    clear h hnone hln
    have hnil := run_eql_nil (P := Tryz.prog) elVec.ty (some a) n c 0 0
    simp only [Option.isNone_some] at hnil
    go_enter Tryz.func58, Tryz.ntmps58
    have hown : (w.alloc (.cells #[] 3)).ownsRow w.heap.size 3 1 (.slice (some ⟨w.heap.size, 0, none⟩) 0 0) 0 [] := World.ownsRow_lit w #[] 0 (Nat.le_refl _) (by decide) rfl
    have hsrc : Src Tryz.prog (w.alloc (.cells #[] 3)) 1 (.slice (some a) n c) n (l.map ic) := Src.of_rd (by have := HA.out.later (below_alloc w (.cells #[] 3)); rwa [HLN.out] at this) (by rw [HL.out, HLN.out])
    go_wp2_with (at_builtin; refine wpList_app elVec ⟨_, elVec.ty, fun k h => by cases h⟩ rfl (.tmp 5) (.tmp 6) rfl rfl rfl hown hsrc (oneV l) (by simp only [maxLen]; omega) (by omega) (by simp) ?_; intro v' w' own' grow' blk')
    have hb := (below_alloc w (.cells #[] 3)).grown grow' (by simp) (fun k hk => (hown.lt k hk).1)
    have HO := Lib.hid own'
    have HB := Lib.hid hb
    clear own' grow' blk' hb hown hsrc
    go_wp2_with fail
    go_ret
    refine ⟨_, rfl, ?_, HB.out⟩
    have := HO.out
    rw [Nat.zero_add, List.nil_append] at this
    show World.ownsRow _ _ _ _ _ _ _
    rw [HLN.out]
    exact this

set_option maxRecDepth 100000 in
set_option maxHeartbeats 2000000 in
theorem vTrim_any (v : Value) (l : List Int) (w : World) (h : Rd w v l.length (l.map ic)) (hn : l.length ≤ 1000000) :
    Calls Tryz.prog 35 #[v] w (OwnPostV w (trimL l)) := by
  obtain ⟨ao, c, rfl, hnc, hcm, _, _⟩ := id h
  have HA := Lib.hid h
  obtain ⟨n, hln⟩ : ∃ n, l.length = n := ⟨_, rfl⟩
  have HLN := Lib.hid hln
  have HN := Lib.hid hn
  rw [hln] at hnc ⊢
  unfold maxLen at hcm
  clear h hln hn
  go_enter Tryz.func35, Tryz.ntmps35
  go_wp2_with fail
  go_loopw [3] (fun vi wr => ∃ (k : Nat) (m : Int), vi = .int .i64 m ∧ k ≤ n ∧ Hid (m = k) ∧ Hid (trimL (l.take k) = trimL l) ∧ Hid (w = wr)) (fun vi _ => (intOf vi).toNat)
  case atStart => exact ⟨n, n, by first | rfl | simp, Nat.le_refl _, rfl, (by show _ = _; rw [List.take_of_length_le (by have := HLN.out; omega)]), rfl⟩
  case round =>
    obtain ⟨k, m, rfl, hk, hm, htr, hw⟩ := hrel
    rename World => wr
    have hw := hw.out
    subst hw
    have hex : ∀ j : Nat, j ≤ n → (m : Int) = j → l.take j = trimL l → ∃ a' c', (∀ W, (Instr.sliceAt 23 (.slice ao n c) none (some (.int .i64 m)) none).run Tryz.prog W = .ok (.slice a' j c') W) ∧ Rd w (.slice a' j c') (trimL l).length ((trimL l).map ic) := by
      intro j hj hmj ht
      obtain ⟨a', c', h1, h2⟩ := run_part_hi elVec (h := by have := HA.out; rw [HLN.out] at this; exact this) (by simp [HLN.out]) j hj
      refine ⟨a', c', fun W => by rw [hmj]; exact h1 W, ?_⟩
      have hl : (trimL l).length = j := by rw [← ht, List.length_take]; have := HLN.out; omega
      rw [hl, ← ht, List.map_take]
      simpa using h2
    have HEX := Lib.hid hex
    clear hex
    cases k with
    | zero =>
      have hm0 : m = 0 := by have := hm.out; simpa using this
      have ht0 : l.take 0 = trimL l := by have := htr.out; rw [List.take_zero] at this ⊢; rw [← this]; rfl
      obtain ⟨a', c', hs, hr⟩ := HEX.out 0 (Nat.zero_le _) hm.out ht0
      have hd : decide (0 < m) = false := decide_eq_false (by omega)
      have hlt : (trimL l).length = 0 := by rw [← ht0]; rfl
      have HC := Lib.hid (cloneV_any (.slice a' 0 c') (trimL l) w hr (by omega))
      clear hm hm0 ht0 htr hr hlt
      go_wp2_with fail
      refine HC.out.mono ?_
      rintro e w2 ⟨v2, rfl, ho, hb⟩
      have HO := Lib.hid ho
      have HB := Lib.hid hb
      clear ho hb
      go_wp2_with fail
      go_ret
      exact ⟨_, rfl, HO.out, HB.out⟩
    | succ k =>
      have hkl : k < l.length := by have := HLN.out; omega
      obtain ⟨x, hx⟩ : ∃ x, l[k] = x := ⟨_, rfl⟩
      obtain ⟨A, x1, c0, _⟩ := rd_one elVec ic HA.out rfl k hkl
      rw [HLN.out] at x1
      rw [hx] at c0
      have htk : l.take (k + 1) = l.take k ++ [x] := by rw [List.take_succ_eq_append_getElem hkl, hx]
      have hd : decide (0 < m) = true := decide_eq_true (by have := hm.out; omega)
      have hdm : m - 1 = (k : Int) := by have := hm.out; omega
      have h3 : 1 ≤ m := by have := hm.out; omega
      have h4 : m ≤ 9223372036854775807 := by have := hm.out; have := HLN.out; have := HN.out; omega
      by_cases h0 : x = 0
      · subst h0
        have HT : Hid (trimL (l.take k) = trimL l) := (by show _ = _; rw [← htr.out, htk, trimL_snoc0])
        clear hx htk htr
        go_wp2_with fail
        go_roundw
        case rel => exact ⟨k, k, by go_num, by omega, rfl, HT.out, by first | exact rfl | exact trivial⟩
        case measure => simp [intOf]; omega
      · have hxb : (x == 0) = false := by simpa using h0
        have ht0 : l.take (k + 1) = trimL l := by rw [← htr.out, htk, trimL_snoc h0]
        obtain ⟨a', c', hs, hr⟩ := HEX.out (k + 1) hk hm.out ht0
        have hlt : (trimL l).length ≤ 1000000 := by rw [← ht0, List.length_take]; have := HN.out; omega
        have hlk : (trimL l).length = k + 1 := by rw [← ht0, List.length_take]; omega
        have HC := Lib.hid (cloneV_any (.slice a' (k + 1) c') (trimL l) w hr hlt)
        clear hx htk htr ht0 hr hlt h0 hlk
        go_wp2_with fail
        refine HC.out.mono ?_
        rintro e w2 ⟨v2, rfl, ho, hb⟩
        have HO := Lib.hid ho
        have HB := Lib.hid hb
        clear ho hb
        go_wp2_with fail
        go_ret
        exact ⟨_, rfl, HO.out, HB.out⟩
end Go.Proofs.YtnolbabpkhdpmaaGreat
