/-
  Layer 7 (multi): the document's Write. (printed by tools/gen_mh.py)
-/
import Derived.Test.YtagbaejgjhmokaaMG
namespace Go.Proofs.Ytagbaejgjhmokaa
open Go.RowKit Go.Sort Go.BigFrame

theorem wpList_pushH {P : Program} {w : World} {ops : Array Oper} {rest : List Oper} {o : Oper} {a : Act} {Q : Exit → Act → World → Prop}
    {t e : TypeId} {size bytes : Nat} {z : Value} (T : El P t e size bytes z)
    (hg : o.guard = none) (s x : Operand) (hop : o.op = Op.call { callee := Callee.builtin Builtin.append, args := #[s, x], argTypes := #[t, t] })
    {B H : Nat} (hH : w.heap.size = H) {v : Value} {n : Nat} {cs : Array Value} {xs : List Value} (hsv : a.eval s = v) (hxy : a.eval x = .slice (some ⟨H, 0, none⟩) 1 1) (hown : w.ownsRow B e size v n xs) (hcs : cs.size = size) (h1 : cs.toList.all (fun u => u.oneCell') = true)
    (h63 : n + 1 ≤ maxLen) (hbytes : (n + 1) * bytes ≤ 140737488355328) (hB : B ≤ w.heap.size)
    (hK : ∀ v' w', w'.ownsRow B e size v' (n + 1) (xs ++ cs.toList) → w.grownBy w' v.ownBlock → (∀ k, v'.ownBlock = some k → v.ownBlock = some k ∨ w.heap.size ≤ k) → wpList P ops Q rest (a.put o.dst v') w') :
    wpList P ops Q (o :: rest) a (w.alloc (.cells cs e)) := by
  subst hH
  exact wpList_push T hg s x hop hsv hxy hown hcs h1 h63 hbytes hB hK

theorem bx_set4 {w : World} {q : Nat} {T : TypeId} {a b c d e : Value} (h : Bx w q #[a, b, c, d, e] T) (v : Value) : Bx (w.setCell ⟨q, 4, none⟩ v) q #[a, b, c, d, v] T := by
  obtain ⟨hlt, hk⟩ := Array.getElem?_eq_some_iff.1 h
  show (w.heap.modify q _)[q]? = _
  rw [Array.getElem?_eq_getElem (by rw [Array.size_modify]; exact hlt), Array.getElem_modify_self, hk]
  rfl
theorem own_setq {w : World} {B q n : Nat} {e : TypeId} {size : Nat} {v : Value} {xs : List Value} (h : w.ownsRow B e size v n xs) (hq : q < B) (j : Nat) (u : Value) : (w.setCell ⟨q, j, none⟩ u).ownsRow B e size v n xs :=
  own_but h ((But.refl (fun k => k = q) w).set rfl _) fun k hk hs => by have := (h.lt k hk).1; omega

theorem kept_yes {x : Prt} {l : List Prt} {d : Dt} {k : List Int} (h : keepW d k x = true) : keptW (x :: l) d k = x :: keptW l d k := List.filter_cons_of_pos h
theorem kept_no {x : Prt} {l : List Prt} {d : Dt} {k : List Int} (h : keepW d k x = false) : keptW (x :: l) d k = keptW l d k := List.filter_cons_of_neg (by rw [show (!decide (x.d = d) && !hasV k x.d) = keepW d k x from rfl, h]; simp)

/-- What the document's Write keeps in its loop: the box of what comes of it. -/
structure WrR (w w1 wr : World) (kd : Int) (cv v : Val) (d : Dt) (knew : List Int) (l : List Prt) (k : Nat) (laid : Bool) (O : List Prt) : Prop where
  box : ∃ a c, Bx wr (w.heap.size + 4) #[.int .i64 kd, .int .i64 cv.k, .int .i64 cv.n, .string cv.s, .slice a O.length c] 26 ∧ OwnP wr w1.heap.size (.slice a O.length c) O
  eq : O ++ putR (bareP v d) laid (keptW (l.drop k) d knew) = writeL l v d knew
  len : O.length ≤ k + laid.toNat
  but : But (fun j => j = w.heap.size + 4 ∨ w1.heap.size ≤ j) w1 wr

/-- The box's slice gets a part more. -/
theorem WrR.pushed {w w1 wr w3 w4 : World} {kd : Int} {cv : Val} {O : List Prt} {x : Prt} {a : Option Addr} {c N : Nat} {v4 : Value} (hN : (O ++ [x]).length = N) (hsz : w1.heap.size = w.heap.size + 5) (hbut : But (fun j => j = w.heap.size + 4 ∨ w1.heap.size ≤ j) w1 wr) (hb : Below wr.heap.size wr w3)
    (hbx : Bx w3 (w.heap.size + 4) #[.int .i64 kd, .int .i64 cv.k, .int .i64 cv.n, .string cv.s, .slice a O.length c] 26) (ho : OwnP w3 w1.heap.size (.slice a O.length c) O)
    (own : w4.ownsRow w1.heap.size 32 11 v4 N (prtCs O ++ enP x)) (grow : w3.grownBy w4 (Value.ownBlock (.slice a O.length c))) :
    ∃ a4 c4, v4 = .slice a4 N c4 ∧ Bx w4 (w.heap.size + 4) #[.int .i64 kd, .int .i64 cv.k, .int .i64 cv.n, .string cv.s, .slice a O.length c] 26 ∧
      Bx (w4.setCell ⟨w.heap.size + 4, 4, none⟩ (.slice a4 N c4)) (w.heap.size + 4) #[.int .i64 kd, .int .i64 cv.k, .int .i64 cv.n, .string cv.s, .slice a4 (O ++ [x]).length c4] 26 ∧
      OwnP (w4.setCell ⟨w.heap.size + 4, 4, none⟩ (.slice a4 N c4)) w1.heap.size (.slice a4 (O ++ [x]).length c4) (O ++ [x]) ∧
      But (fun j => j = w.heap.size + 4 ∨ w1.heap.size ≤ j) w1 (w4.setCell ⟨w.heap.size + 4, 4, none⟩ (.slice a4 N c4)) := by
  obtain ⟨a4, c4, rfl, _⟩ := Rd.of_own own
  have hbq := bx_grown grow hbx (fun e => by have := (ho.lt _ e).1; omega)
  refine ⟨a4, c4, rfl, hbq, ?_, ?_, ?_⟩
  · rw [hN]; exact bx_set4 hbq _
  · have := own_setq (q := w.heap.size + 4) own (by omega) 4 (.slice a4 N c4)
    unfold OwnP
    rw [hN, prtCs_app]
    simpa [prtCs] using this
  · exact ((hbut.trans (But.of_below (S := fun _ => False) hb) (fun _ _ h => h.elim)).trans (But.of_grown (S := fun j => w1.heap.size ≤ j) grow fun kk hk => (ho.lt kk hk).1) (fun _ _ h => .inr h)).set (.inl rfl) _

set_option maxRecDepth 100000 in
set_option maxHeartbeats 8000000 in
theorem refWrite_any (kd : Int) (cv v : Val) (va vk : Value) (l : List Prt) (q : Dt) (knew : List Int) (w : World) (ha : PRd w va l) (hk : Rd w vk knew.length (knew.map ic)) (hn : l.length ≤ 1000) :
    Calls Try.prog 16 #[.agg #[.int .i64 kd, .int .i64 cv.k, .int .i64 cv.n, .string cv.s, va], v.agg, q.agg, vk] w (CellPost kd cv w (writeL l v q knew)) := by
  obtain ⟨ao, cc, rfl, hnc, hcm, _, _⟩ := id ha
  obtain ⟨ko, kc, rfl, _⟩ := id hk
  obtain ⟨dd, ds⟩ := q
  obtain ⟨w1, hw1⟩ : ∃ w1, ((((w.alloc (.cells #[.int .i64 kd, .int .i64 cv.k, .int .i64 cv.n, .string cv.s, .slice ao l.length cc] 26)).alloc (.cells #[.int .i64 v.k, .int .i64 v.n, .string v.s] 23)).alloc (.cells #[.int .i64 dd, .int .i64 ds] 30)).alloc (.cells #[.int .i64 0, .int .i64 0, .int .i64 0, .string ⟨#[]⟩, .slice none 0 0] 26)).alloc (.cells #[.int .i64 kd, .int .i64 cv.k, .int .i64 cv.n, .string cv.s, .slice none 0 0] 26) = w1 := ⟨_, rfl⟩
  have hb1 : Below w.heap.size w w1 := by rw [← hw1]; exact below_alloc_then (below_alloc_then (below_alloc_then (below_alloc_then (below_alloc _ _))))
  have hsz : w1.heap.size = w.heap.size + 5 := by rw [← hw1]; simp
  have b0 : Bx w1 w.heap.size #[.int .i64 kd, .int .i64 cv.k, .int .i64 cv.n, .string cv.s, .slice ao l.length cc] 26 := by rw [← hw1]; exact bx_later (below_alloc_then (below_alloc_then (below_alloc_then (below_alloc _ _)))) (bx_new (by simp))
  have b1 : Bx w1 (w.heap.size + 1) #[.int .i64 v.k, .int .i64 v.n, .string v.s] 23 := by rw [← hw1]; exact bx_later (below_alloc_then (below_alloc_then (below_alloc _ _))) (bx_new (by simp))
  have b2 : Bx w1 (w.heap.size + 2) #[.int .i64 dd, .int .i64 ds] 30 := by rw [← hw1]; exact bx_later (below_alloc_then (below_alloc _ _)) (bx_new (by simp))
  have b3 : Bx w1 (w.heap.size + 3) #[.int .i64 0, .int .i64 0, .int .i64 0, .string ⟨#[]⟩, .slice none 0 0] 26 := by rw [← hw1]; exact bx_later (below_alloc _ _) (bx_new (by simp))
  have b4 : Bx w1 (w.heap.size + 4) #[.int .i64 kd, .int .i64 cv.k, .int .i64 cv.n, .string cv.s, .slice none 0 0] 26 := by rw [← hw1]; exact bx_new (by simp)
  have HA := Lib.hid ha
  have HK := Lib.hid hk
  have HW := Lib.hid hw1
  have HBW1 := Lib.hid hb1
  have HSZ := Lib.hid hsz
  have B0 := Lib.hid b0
  have B1 := Lib.hid b1
  have B2 := Lib.hid b2
  have B3 := Lib.hid b3
  have B4 := Lib.hid b4
  obtain ⟨n, hln⟩ : ∃ n, l.length = n := ⟨_, rfl⟩
  have HLN := Lib.hid hln
  rw [hln] at hnc hn HW B0 ⊢
  unfold maxLen at hcm
  clear hw1 hb1 hsz b0 b1 b2 b3 b4 ha hk hln
  go_enter Try.func16, Try.ntmps16
  go_wp2_with fail
  rw [HW.out]
  go_loopw [10, 11] (fun vd vi wr => ∃ (k : Nat) (laid : Bool) (O : List Prt), k ≤ n ∧ vi = .int .i64 k ∧ vd = .bool laid ∧ Hid (WrR w w1 wr kd cv v ⟨dd, ds⟩ knew l k laid O)) (fun _ vi _ => n - (intOf vi).toNat)
  case atStart => exact ⟨0, false, [], Nat.zero_le _, rfl, rfl, ⟨⟨none, 0, B4.out, World.ownsRow_nil _ _ _ _⟩, rfl, by simp, But.refl _ _⟩⟩
  case round =>
    obtain ⟨k, laid, O, hk, rfl, rfl, hR⟩ := hrel
    rename World => wr
    obtain ⟨⟨oa, oc, hbq, hown⟩, heq, hlen, hbut⟩ := hR.out
    have hbel : Below w.heap.size w wr := HBW1.out.trans (hbut.below HBW1.out.size fun kk hk => by have := HSZ.out; rcases hk with rfl | hk <;> omega)
    have hold : ∀ {q : Nat} {cs : Array Value} {T : TypeId}, q < w.heap.size + 4 → Bx w1 q cs T → Bx wr q cs T := fun hq h => hbut.blk h (by have := HSZ.out; omega)
    have y4 := cell_of_box (hold (by omega) B0.out) 4 rfl
    have HLE : Hid (O.length ≤ 1001) := by have := Bool.toNat_le laid; show _ ≤ _; omega
    have HLK := Lib.hid hlen
    have BQ := Lib.hid hbq
    have HO0 := Lib.hid hown
    have HBU0 := Lib.hid hbut
    by_cases hlt : k < n
    · have hkl : k < l.length := by have := HLN.out; omega
      obtain ⟨x, hx⟩ : ∃ x, l[k] = x := ⟨_, rfl⟩
      obtain ⟨bb, oo, x1, c0, c1, c2, c3, c4, c5, c6, c7, c8, c9, c10, _⟩ := rd_prt HA.out rfl k hkl hx
      rw [HLN.out] at x1
      replace c0 := cell_later hbel c0
      replace c1 := cell_later hbel c1
      replace c2 := cell_later hbel c2
      replace c3 := cell_later hbel c3
      replace c4 := cell_later hbel c4
      replace c5 := cell_later hbel c5
      replace c6 := cell_later hbel c6
      replace c7 := cell_later hbel c7
      replace c8 := cell_later hbel c8
      replace c9 := cell_later hbel c9
      replace c10 := cell_later hbel c10
      have hdr := List.drop_eq_getElem_cons hkl
      rw [hx] at hdr
      rw [hdr] at heq
      obtain ⟨xv, ⟨a, b⟩, xa, xt, xf, xaa, xg⟩ := x
      have HEQ := Lib.hid heq
      have HBX := Lib.hid (below_alloc wr (.cells #[.int .i64 xv.k, .int .i64 xv.n, .string xv.s, .int .i64 a, .int .i64 b, .int .i64 xa, .int .i64 xt, .int .i64 xf.dev, .int .i64 xf.seq, .int .i64 xaa, .bool xg] 32))
      have BX : Hid (Bx (wr.alloc (.cells #[.int .i64 xv.k, .int .i64 xv.n, .string xv.s, .int .i64 a, .int .i64 b, .int .i64 xa, .int .i64 xt, .int .i64 xf.dev, .int .i64 xf.seq, .int .i64 xaa, .bool xg] 32)) wr.heap.size #[.int .i64 xv.k, .int .i64 xv.n, .string xv.s, .int .i64 a, .int .i64 b, .int .i64 xa, .int .i64 xt, .int .i64 xf.dev, .int .i64 xf.seq, .int .i64 xaa, .bool xg] 32) := bx_new rfl
      have bd := bx_later HBX.out (hold (by omega) B2.out)
      have g0 := cell_of_box bd 0 rfl
      have g1 := cell_of_box bd 1 rfl
      have BD := Lib.hid (hold (by omega) B2.out)
      have BV := Lib.hid (hold (by omega) B1.out)
      have HK1 := Lib.hid (HK.out.later (below_then hbel HBX.out))
      have HO := HO0
      clear hx hdr heq bd hold hR hown hbq hbut hlen hbel
      by_cases h1 : a = dd
      · subst h1
        by_cases h2 : b = ds
        · subst h2
          have HKP : Hid (keepW ⟨a, b⟩ knew ⟨xv, ⟨a, b⟩, xa, xt, xf, xaa, xg⟩ = false) := by show _ = _; unfold keepW; rw [decide_eq_true rfl]; rfl
          go_wp2_with fail
          go_roundw
          case rel => exact ⟨k + 1, laid, O, by omega, by go_num, rfl, ⟨⟨_, _, bx_later HBX.out BQ.out, own_later HO0.out HBX.out⟩, by have := HEQ.out; rwa [kept_no HKP.out] at this, by have := HLK.out; omega, HBU0.out.trans (But.of_below (S := fun _ => False) HBX.out) (fun _ _ h => h.elim)⟩⟩
          case measure => simp [intOf]; omega
        · have hne : ¬ (⟨a, b⟩ : Dt) = ⟨a, ds⟩ := fun h => h2 (by cases h; rfl)
          have h3 : (b == ds) = false := by simpa using h2
          clear h2
          have HNE := Lib.hid hne
          have HB0 := HBX
          go_wp2_with fail
          refine (refHasV_any _ knew ⟨a, b⟩ _ HK1.out).mono ?_
          rintro e w3 ⟨rfl, hb3⟩
          have HB3 := Lib.hid (below_then HBX.out hb3)
          cases hhv : hasV knew ⟨a, b⟩
          · have HHV := Lib.hid hhv
            clear hhv
            have HKP : Hid (keepW ⟨a, ds⟩ knew ⟨xv, ⟨a, b⟩, xa, xt, xf, xaa, xg⟩ = true) := by show _ = _; unfold keepW; rw [decide_eq_false HNE.out, HHV.out]; rfl
            have BX3 := Lib.hid (bx_later hb3 BX.out)
            have bx3 := BX3.out
            have e0 := cell_of_box bx3 0 rfl
            have e1 := cell_of_box bx3 1 rfl
            have e2 := cell_of_box bx3 2 rfl
            have e3 := cell_of_box bx3 3 rfl
            have e4 := cell_of_box bx3 4 rfl
            have e5 := cell_of_box bx3 5 rfl
            have e6 := cell_of_box bx3 6 rfl
            have e7 := cell_of_box bx3 7 rfl
            have e8 := cell_of_box bx3 8 rfl
            have e9 := cell_of_box bx3 9 rfl
            have e10 := cell_of_box bx3 10 rfl
            clear bx3
            cases laid
            · have HB3' := HB3
              have s0_ := cell_of_box (bx_later HB3.out BD.out) 0 rfl
              have s1_ := cell_of_box (bx_later HB3.out BD.out) 1 rfl
              go_wp2_with fail
              refine (above_any ⟨a, b⟩ ⟨a, ds⟩ _).mono ?_
              rintro e w3' ⟨rfl, hb4⟩
              have HB3 := Lib.hid (below_then HB3.out hb4)
              have BX3 := Lib.hid (bx_later hb4 BX3.out)
              clear e0 e1 e2 e3 e4 e5 e6 e7 e8 e9 e10 s0_ s1_
              have bx3 := BX3.out
              have e0 := cell_of_box bx3 0 rfl
              have e1 := cell_of_box bx3 1 rfl
              have e2 := cell_of_box bx3 2 rfl
              have e3 := cell_of_box bx3 3 rfl
              have e4 := cell_of_box bx3 4 rfl
              have e5 := cell_of_box bx3 5 rfl
              have e6 := cell_of_box bx3 6 rfl
              have e7 := cell_of_box bx3 7 rfl
              have e8 := cell_of_box bx3 8 rfl
              have e9 := cell_of_box bx3 9 rfl
              have e10 := cell_of_box bx3 10 rfl
              have BQ3 := Lib.hid (bx_later HB3.out BQ.out)
              have z3 := cell_of_box BQ3.out 4 rfl
              have f3 := frozen_of_box BQ3.out 4
              have HO3 := Lib.hid (own_later HO.out HB3.out)
              have v0_ := cell_of_box (bx_later HB3.out BV.out) 0 rfl
              have v1_ := cell_of_box (bx_later HB3.out BV.out) 1 rfl
              have v2_ := cell_of_box (bx_later HB3.out BV.out) 2 rfl
              have t0_ := cell_of_box (bx_later HB3.out BD.out) 0 rfl
              have t1_ := cell_of_box (bx_later HB3.out BD.out) 1 rfl
              clear bx3 hb4
              cases hl : ltD ⟨a, ds⟩ ⟨a, b⟩
              all_goals
                have HL := Lib.hid hl
                clear hl
              · go_wp2_with (at_builtin; refine wpList_push elP rfl (.tmp 57) (.tmp 59) rfl rfl rfl HO3.out rfl rfl (by have := HLE.out; simp only [maxLen]; omega) (by have := HLE.out; omega) (Nat.le_trans HBU0.out.size HB3.out.size) ?_; intro v4 w4 own4 grow4 _blk4; obtain ⟨a4, g4, rfl, bq4, bs4, os4, bt4⟩ := WrR.pushed (x := ⟨xv, ⟨a, b⟩, xa, xt, xf, xaa, xg⟩) (N := O.length + 1) (by simp) HSZ.out HBU0.out HB3.out BQ3.out HO3.out own4 grow4; have z4 := cell_of_box bq4 4 rfl; have fz4 := frozen_of_box bq4 4; have BS4 := Lib.hid bs4; have OS4 := Lib.hid os4; have BT4 := Lib.hid bt4; have SZ4 := Lib.hid grow4.size; clear own4 grow4 _blk4 bq4 bs4 os4 bt4)
                go_roundw
                case rel => exact ⟨k + 1, false, _, by omega, by go_num, rfl, ⟨⟨_, _, BS4.out, OS4.out⟩, by have := HEQ.out; rw [kept_yes HKP.out, putR_miss HL.out] at this; rw [List.append_assoc]; exact this, by have := HLK.out; simp at *; omega, BT4.out⟩⟩
                case measure => simp [intOf]; omega
              · go_wp2_with (at_builtin; first | (refine wpList_push elP rfl (.tmp 49) (.tmp 53) rfl rfl rfl HO3.out rfl rfl (by have := HLE.out; simp only [maxLen]; omega) (by have := HLE.out; omega) (Nat.le_trans HBU0.out.size HB3.out.size) ?_; intro v4 w4 own4 grow4 _blk4; obtain ⟨a4, g4, rfl, bq4, bs4, os4, bt4⟩ := WrR.pushed (x := bareP v ⟨a, ds⟩) (N := O.length + 1) (by simp) HSZ.out HBU0.out HB3.out BQ3.out HO3.out own4 grow4; have z4 := cell_of_box bq4 4 rfl; have fz4 := frozen_of_box bq4 4; have BS4 := Lib.hid bs4; have OS4 := Lib.hid os4; have BT4 := Lib.hid bt4; have SZ4 := Lib.hid grow4.size; have xs4 := bx_grown grow4 BX3.out (fun e => by have := (HO0.out.lt _ e).2; omega); have ex0 : (w4.setCell ⟨w.heap.size + 4, 4, none⟩ (.slice a4 (O.length + 1) g4)).cell? ⟨wr.heap.size, 0, none⟩ = _ := But.cell ((But.refl (fun kk => kk = w.heap.size + 4) w4).set rfl _) (cell_of_box xs4 0 rfl) (by have := HSZ.out; have := HBU0.out.size; show ¬ wr.heap.size = w.heap.size + 4; omega); have ex1 : (w4.setCell ⟨w.heap.size + 4, 4, none⟩ (.slice a4 (O.length + 1) g4)).cell? ⟨wr.heap.size, 1, none⟩ = _ := But.cell ((But.refl (fun kk => kk = w.heap.size + 4) w4).set rfl _) (cell_of_box xs4 1 rfl) (by have := HSZ.out; have := HBU0.out.size; show ¬ wr.heap.size = w.heap.size + 4; omega); have ex2 : (w4.setCell ⟨w.heap.size + 4, 4, none⟩ (.slice a4 (O.length + 1) g4)).cell? ⟨wr.heap.size, 2, none⟩ = _ := But.cell ((But.refl (fun kk => kk = w.heap.size + 4) w4).set rfl _) (cell_of_box xs4 2 rfl) (by have := HSZ.out; have := HBU0.out.size; show ¬ wr.heap.size = w.heap.size + 4; omega); have ex3 : (w4.setCell ⟨w.heap.size + 4, 4, none⟩ (.slice a4 (O.length + 1) g4)).cell? ⟨wr.heap.size, 3, none⟩ = _ := But.cell ((But.refl (fun kk => kk = w.heap.size + 4) w4).set rfl _) (cell_of_box xs4 3 rfl) (by have := HSZ.out; have := HBU0.out.size; show ¬ wr.heap.size = w.heap.size + 4; omega); have ex4 : (w4.setCell ⟨w.heap.size + 4, 4, none⟩ (.slice a4 (O.length + 1) g4)).cell? ⟨wr.heap.size, 4, none⟩ = _ := But.cell ((But.refl (fun kk => kk = w.heap.size + 4) w4).set rfl _) (cell_of_box xs4 4 rfl) (by have := HSZ.out; have := HBU0.out.size; show ¬ wr.heap.size = w.heap.size + 4; omega); have ex5 : (w4.setCell ⟨w.heap.size + 4, 4, none⟩ (.slice a4 (O.length + 1) g4)).cell? ⟨wr.heap.size, 5, none⟩ = _ := But.cell ((But.refl (fun kk => kk = w.heap.size + 4) w4).set rfl _) (cell_of_box xs4 5 rfl) (by have := HSZ.out; have := HBU0.out.size; show ¬ wr.heap.size = w.heap.size + 4; omega); have ex6 : (w4.setCell ⟨w.heap.size + 4, 4, none⟩ (.slice a4 (O.length + 1) g4)).cell? ⟨wr.heap.size, 6, none⟩ = _ := But.cell ((But.refl (fun kk => kk = w.heap.size + 4) w4).set rfl _) (cell_of_box xs4 6 rfl) (by have := HSZ.out; have := HBU0.out.size; show ¬ wr.heap.size = w.heap.size + 4; omega); have ex7 : (w4.setCell ⟨w.heap.size + 4, 4, none⟩ (.slice a4 (O.length + 1) g4)).cell? ⟨wr.heap.size, 7, none⟩ = _ := But.cell ((But.refl (fun kk => kk = w.heap.size + 4) w4).set rfl _) (cell_of_box xs4 7 rfl) (by have := HSZ.out; have := HBU0.out.size; show ¬ wr.heap.size = w.heap.size + 4; omega); have ex8 : (w4.setCell ⟨w.heap.size + 4, 4, none⟩ (.slice a4 (O.length + 1) g4)).cell? ⟨wr.heap.size, 8, none⟩ = _ := But.cell ((But.refl (fun kk => kk = w.heap.size + 4) w4).set rfl _) (cell_of_box xs4 8 rfl) (by have := HSZ.out; have := HBU0.out.size; show ¬ wr.heap.size = w.heap.size + 4; omega); have ex9 : (w4.setCell ⟨w.heap.size + 4, 4, none⟩ (.slice a4 (O.length + 1) g4)).cell? ⟨wr.heap.size, 9, none⟩ = _ := But.cell ((But.refl (fun kk => kk = w.heap.size + 4) w4).set rfl _) (cell_of_box xs4 9 rfl) (by have := HSZ.out; have := HBU0.out.size; show ¬ wr.heap.size = w.heap.size + 4; omega); have ex10 : (w4.setCell ⟨w.heap.size + 4, 4, none⟩ (.slice a4 (O.length + 1) g4)).cell? ⟨wr.heap.size, 10, none⟩ = _ := But.cell ((But.refl (fun kk => kk = w.heap.size + 4) w4).set rfl _) (cell_of_box xs4 10 rfl) (by have := HSZ.out; have := HBU0.out.size; show ¬ wr.heap.size = w.heap.size + 4; omega); have zz4 := cell_of_box bs4 4 rfl; have fzz4 := frozen_of_box bs4 4; have HL4 : Hid ((O ++ [bareP v ⟨a, ds⟩]).length = O.length + 1) := (by show _ = _; simp); have OS4w : Hid (World.ownsRow (w4.setCell ⟨w.heap.size + 4, 4, none⟩ (.slice a4 (O.length + 1) g4)) w1.heap.size 32 11 (.slice a4 (O.length + 1) g4) (O.length + 1) (prtCs (O ++ [bareP v ⟨a, ds⟩]))) := (by have hh := os4; unfold OwnP at hh; rw [HL4.out] at hh; exact hh); clear own4 grow4 _blk4 bq4 bs4 os4 bt4) | (refine wpList_pushH elP rfl (.tmp 57) (.tmp 59) rfl (H := w4.heap.size) (by simp) rfl rfl OS4w.out rfl rfl (by have := HLE.out; simp only [maxLen]; omega) (by have := HLE.out; omega) BT4.out.size ?_; intro v5 w5 own5 grow5 _blk5; obtain ⟨a5, g5, rfl, bq5, bs5, os5, bt5⟩ := WrR.pushed (x := ⟨xv, ⟨a, b⟩, xa, xt, xf, xaa, xg⟩) (N := O.length + 1 + 1) (by simp) HSZ.out BT4.out (Below.refl _ _) BS4.out OS4.out own5 (by rw [HL4.out]; exact grow5); have z5 := cell_of_box bq5 4 rfl; have fz5 := frozen_of_box bq5 4; have BS5 := Lib.hid bs5; have OS5 := Lib.hid os5; have BT5 := Lib.hid bt5; clear own5 grow5 _blk5 bq5 bs5 os5 bt5))
                go_roundw
                case rel => exact ⟨k + 1, true, _, by omega, by go_num, rfl, ⟨⟨_, _, BS5.out, OS5.out⟩, by have := HEQ.out; rw [kept_yes HKP.out, putR_hit HL.out] at this; rw [List.append_assoc, List.append_assoc]; exact this, by have := HLK.out; simp at *; omega, BT5.out⟩⟩
                case measure => simp [intOf]; omega
            · have BQ3 := Lib.hid (bx_later HB3.out BQ.out)
              have z3 := cell_of_box BQ3.out 4 rfl
              have f3 := frozen_of_box BQ3.out 4
              have HO3 := Lib.hid (own_later HO.out HB3.out)
              go_wp2_with (at_builtin; refine wpList_push elP rfl (.tmp 57) (.tmp 59) rfl rfl rfl HO3.out rfl rfl (by have := HLE.out; simp only [maxLen]; omega) (by have := HLE.out; omega) (Nat.le_trans HBU0.out.size HB3.out.size) ?_; intro v4 w4 own4 grow4 _blk4; obtain ⟨a4, g4, rfl, bq4, bs4, os4, bt4⟩ := WrR.pushed (x := ⟨xv, ⟨a, b⟩, xa, xt, xf, xaa, xg⟩) (N := O.length + 1) (by simp) HSZ.out HBU0.out HB3.out BQ3.out HO3.out own4 grow4; have z4 := cell_of_box bq4 4 rfl; have fz4 := frozen_of_box bq4 4; have BS4 := Lib.hid bs4; have OS4 := Lib.hid os4; have BT4 := Lib.hid bt4; have SZ4 := Lib.hid grow4.size; clear own4 grow4 _blk4 bq4 bs4 os4 bt4)
              go_roundw
              case rel => exact ⟨k + 1, true, _, by omega, by go_num, rfl, ⟨⟨_, _, BS4.out, OS4.out⟩, by have := HEQ.out; rw [kept_yes HKP.out, putR_laid] at this; rw [List.append_assoc]; exact this, by have := HLK.out; simp at *; omega, BT4.out⟩⟩
              case measure => simp [intOf]; omega
          · have HKP : Hid (keepW ⟨a, ds⟩ knew ⟨xv, ⟨a, b⟩, xa, xt, xf, xaa, xg⟩ = false) := by show _ = _; unfold keepW; rw [hhv]; simp
            clear hhv
            go_wp2_with fail
            go_roundw
            case rel => exact ⟨k + 1, laid, O, by omega, by go_num, rfl, ⟨⟨_, _, bx_later HB3.out BQ.out, own_later HO0.out HB3.out⟩, by have := HEQ.out; rwa [kept_no HKP.out] at this, by have := HLK.out; omega, HBU0.out.trans (But.of_below (S := fun _ => False) HB3.out) (fun _ _ h => h.elim)⟩⟩
            case measure => simp [intOf]; omega
      · have hne : ¬ (⟨a, b⟩ : Dt) = ⟨dd, ds⟩ := fun h => h1 (by cases h; rfl)
        have h3 : (a == dd) = false := by simpa using h1
        clear h1
        have HNE := Lib.hid hne
        have HB0 := HBX
        go_wp2_with fail
        refine (refHasV_any _ knew ⟨a, b⟩ _ HK1.out).mono ?_
        rintro e w3 ⟨rfl, hb3⟩
        have HB3 := Lib.hid (below_then HBX.out hb3)
        cases hhv : hasV knew ⟨a, b⟩
        · have HHV := Lib.hid hhv
          clear hhv
          have HKP : Hid (keepW ⟨dd, ds⟩ knew ⟨xv, ⟨a, b⟩, xa, xt, xf, xaa, xg⟩ = true) := by show _ = _; unfold keepW; rw [decide_eq_false HNE.out, HHV.out]; rfl
          have BX3 := Lib.hid (bx_later hb3 BX.out)
          have bx3 := BX3.out
          have e0 := cell_of_box bx3 0 rfl
          have e1 := cell_of_box bx3 1 rfl
          have e2 := cell_of_box bx3 2 rfl
          have e3 := cell_of_box bx3 3 rfl
          have e4 := cell_of_box bx3 4 rfl
          have e5 := cell_of_box bx3 5 rfl
          have e6 := cell_of_box bx3 6 rfl
          have e7 := cell_of_box bx3 7 rfl
          have e8 := cell_of_box bx3 8 rfl
          have e9 := cell_of_box bx3 9 rfl
          have e10 := cell_of_box bx3 10 rfl
          clear bx3
          cases laid
          · have HB3' := HB3
            have s0_ := cell_of_box (bx_later HB3.out BD.out) 0 rfl
            have s1_ := cell_of_box (bx_later HB3.out BD.out) 1 rfl
            go_wp2_with fail
            refine (above_any ⟨a, b⟩ ⟨dd, ds⟩ _).mono ?_
            rintro e w3' ⟨rfl, hb4⟩
            have HB3 := Lib.hid (below_then HB3.out hb4)
            have BX3 := Lib.hid (bx_later hb4 BX3.out)
            clear e0 e1 e2 e3 e4 e5 e6 e7 e8 e9 e10 s0_ s1_
            have bx3 := BX3.out
            have e0 := cell_of_box bx3 0 rfl
            have e1 := cell_of_box bx3 1 rfl
            have e2 := cell_of_box bx3 2 rfl
            have e3 := cell_of_box bx3 3 rfl
            have e4 := cell_of_box bx3 4 rfl
            have e5 := cell_of_box bx3 5 rfl
            have e6 := cell_of_box bx3 6 rfl
            have e7 := cell_of_box bx3 7 rfl
            have e8 := cell_of_box bx3 8 rfl
            have e9 := cell_of_box bx3 9 rfl
            have e10 := cell_of_box bx3 10 rfl
            have BQ3 := Lib.hid (bx_later HB3.out BQ.out)
            have z3 := cell_of_box BQ3.out 4 rfl
            have f3 := frozen_of_box BQ3.out 4
            have HO3 := Lib.hid (own_later HO.out HB3.out)
            have v0_ := cell_of_box (bx_later HB3.out BV.out) 0 rfl
            have v1_ := cell_of_box (bx_later HB3.out BV.out) 1 rfl
            have v2_ := cell_of_box (bx_later HB3.out BV.out) 2 rfl
            have t0_ := cell_of_box (bx_later HB3.out BD.out) 0 rfl
            have t1_ := cell_of_box (bx_later HB3.out BD.out) 1 rfl
            clear bx3 hb4
            cases hl : ltD ⟨dd, ds⟩ ⟨a, b⟩
            all_goals
              have HL := Lib.hid hl
              clear hl
            · go_wp2_with (at_builtin; refine wpList_push elP rfl (.tmp 57) (.tmp 59) rfl rfl rfl HO3.out rfl rfl (by have := HLE.out; simp only [maxLen]; omega) (by have := HLE.out; omega) (Nat.le_trans HBU0.out.size HB3.out.size) ?_; intro v4 w4 own4 grow4 _blk4; obtain ⟨a4, g4, rfl, bq4, bs4, os4, bt4⟩ := WrR.pushed (x := ⟨xv, ⟨a, b⟩, xa, xt, xf, xaa, xg⟩) (N := O.length + 1) (by simp) HSZ.out HBU0.out HB3.out BQ3.out HO3.out own4 grow4; have z4 := cell_of_box bq4 4 rfl; have fz4 := frozen_of_box bq4 4; have BS4 := Lib.hid bs4; have OS4 := Lib.hid os4; have BT4 := Lib.hid bt4; have SZ4 := Lib.hid grow4.size; clear own4 grow4 _blk4 bq4 bs4 os4 bt4)
              go_roundw
              case rel => exact ⟨k + 1, false, _, by omega, by go_num, rfl, ⟨⟨_, _, BS4.out, OS4.out⟩, by have := HEQ.out; rw [kept_yes HKP.out, putR_miss HL.out] at this; rw [List.append_assoc]; exact this, by have := HLK.out; simp at *; omega, BT4.out⟩⟩
              case measure => simp [intOf]; omega
            · go_wp2_with (at_builtin; first | (refine wpList_push elP rfl (.tmp 49) (.tmp 53) rfl rfl rfl HO3.out rfl rfl (by have := HLE.out; simp only [maxLen]; omega) (by have := HLE.out; omega) (Nat.le_trans HBU0.out.size HB3.out.size) ?_; intro v4 w4 own4 grow4 _blk4; obtain ⟨a4, g4, rfl, bq4, bs4, os4, bt4⟩ := WrR.pushed (x := bareP v ⟨dd, ds⟩) (N := O.length + 1) (by simp) HSZ.out HBU0.out HB3.out BQ3.out HO3.out own4 grow4; have z4 := cell_of_box bq4 4 rfl; have fz4 := frozen_of_box bq4 4; have BS4 := Lib.hid bs4; have OS4 := Lib.hid os4; have BT4 := Lib.hid bt4; have SZ4 := Lib.hid grow4.size; have xs4 := bx_grown grow4 BX3.out (fun e => by have := (HO0.out.lt _ e).2; omega); have ex0 : (w4.setCell ⟨w.heap.size + 4, 4, none⟩ (.slice a4 (O.length + 1) g4)).cell? ⟨wr.heap.size, 0, none⟩ = _ := But.cell ((But.refl (fun kk => kk = w.heap.size + 4) w4).set rfl _) (cell_of_box xs4 0 rfl) (by have := HSZ.out; have := HBU0.out.size; show ¬ wr.heap.size = w.heap.size + 4; omega); have ex1 : (w4.setCell ⟨w.heap.size + 4, 4, none⟩ (.slice a4 (O.length + 1) g4)).cell? ⟨wr.heap.size, 1, none⟩ = _ := But.cell ((But.refl (fun kk => kk = w.heap.size + 4) w4).set rfl _) (cell_of_box xs4 1 rfl) (by have := HSZ.out; have := HBU0.out.size; show ¬ wr.heap.size = w.heap.size + 4; omega); have ex2 : (w4.setCell ⟨w.heap.size + 4, 4, none⟩ (.slice a4 (O.length + 1) g4)).cell? ⟨wr.heap.size, 2, none⟩ = _ := But.cell ((But.refl (fun kk => kk = w.heap.size + 4) w4).set rfl _) (cell_of_box xs4 2 rfl) (by have := HSZ.out; have := HBU0.out.size; show ¬ wr.heap.size = w.heap.size + 4; omega); have ex3 : (w4.setCell ⟨w.heap.size + 4, 4, none⟩ (.slice a4 (O.length + 1) g4)).cell? ⟨wr.heap.size, 3, none⟩ = _ := But.cell ((But.refl (fun kk => kk = w.heap.size + 4) w4).set rfl _) (cell_of_box xs4 3 rfl) (by have := HSZ.out; have := HBU0.out.size; show ¬ wr.heap.size = w.heap.size + 4; omega); have ex4 : (w4.setCell ⟨w.heap.size + 4, 4, none⟩ (.slice a4 (O.length + 1) g4)).cell? ⟨wr.heap.size, 4, none⟩ = _ := But.cell ((But.refl (fun kk => kk = w.heap.size + 4) w4).set rfl _) (cell_of_box xs4 4 rfl) (by have := HSZ.out; have := HBU0.out.size; show ¬ wr.heap.size = w.heap.size + 4; omega); have ex5 : (w4.setCell ⟨w.heap.size + 4, 4, none⟩ (.slice a4 (O.length + 1) g4)).cell? ⟨wr.heap.size, 5, none⟩ = _ := But.cell ((But.refl (fun kk => kk = w.heap.size + 4) w4).set rfl _) (cell_of_box xs4 5 rfl) (by have := HSZ.out; have := HBU0.out.size; show ¬ wr.heap.size = w.heap.size + 4; omega); have ex6 : (w4.setCell ⟨w.heap.size + 4, 4, none⟩ (.slice a4 (O.length + 1) g4)).cell? ⟨wr.heap.size, 6, none⟩ = _ := But.cell ((But.refl (fun kk => kk = w.heap.size + 4) w4).set rfl _) (cell_of_box xs4 6 rfl) (by have := HSZ.out; have := HBU0.out.size; show ¬ wr.heap.size = w.heap.size + 4; omega); have ex7 : (w4.setCell ⟨w.heap.size + 4, 4, none⟩ (.slice a4 (O.length + 1) g4)).cell? ⟨wr.heap.size, 7, none⟩ = _ := But.cell ((But.refl (fun kk => kk = w.heap.size + 4) w4).set rfl _) (cell_of_box xs4 7 rfl) (by have := HSZ.out; have := HBU0.out.size; show ¬ wr.heap.size = w.heap.size + 4; omega); have ex8 : (w4.setCell ⟨w.heap.size + 4, 4, none⟩ (.slice a4 (O.length + 1) g4)).cell? ⟨wr.heap.size, 8, none⟩ = _ := But.cell ((But.refl (fun kk => kk = w.heap.size + 4) w4).set rfl _) (cell_of_box xs4 8 rfl) (by have := HSZ.out; have := HBU0.out.size; show ¬ wr.heap.size = w.heap.size + 4; omega); have ex9 : (w4.setCell ⟨w.heap.size + 4, 4, none⟩ (.slice a4 (O.length + 1) g4)).cell? ⟨wr.heap.size, 9, none⟩ = _ := But.cell ((But.refl (fun kk => kk = w.heap.size + 4) w4).set rfl _) (cell_of_box xs4 9 rfl) (by have := HSZ.out; have := HBU0.out.size; show ¬ wr.heap.size = w.heap.size + 4; omega); have ex10 : (w4.setCell ⟨w.heap.size + 4, 4, none⟩ (.slice a4 (O.length + 1) g4)).cell? ⟨wr.heap.size, 10, none⟩ = _ := But.cell ((But.refl (fun kk => kk = w.heap.size + 4) w4).set rfl _) (cell_of_box xs4 10 rfl) (by have := HSZ.out; have := HBU0.out.size; show ¬ wr.heap.size = w.heap.size + 4; omega); have zz4 := cell_of_box bs4 4 rfl; have fzz4 := frozen_of_box bs4 4; have HL4 : Hid ((O ++ [bareP v ⟨dd, ds⟩]).length = O.length + 1) := (by show _ = _; simp); have OS4w : Hid (World.ownsRow (w4.setCell ⟨w.heap.size + 4, 4, none⟩ (.slice a4 (O.length + 1) g4)) w1.heap.size 32 11 (.slice a4 (O.length + 1) g4) (O.length + 1) (prtCs (O ++ [bareP v ⟨dd, ds⟩]))) := (by have hh := os4; unfold OwnP at hh; rw [HL4.out] at hh; exact hh); clear own4 grow4 _blk4 bq4 bs4 os4 bt4) | (refine wpList_pushH elP rfl (.tmp 57) (.tmp 59) rfl (H := w4.heap.size) (by simp) rfl rfl OS4w.out rfl rfl (by have := HLE.out; simp only [maxLen]; omega) (by have := HLE.out; omega) BT4.out.size ?_; intro v5 w5 own5 grow5 _blk5; obtain ⟨a5, g5, rfl, bq5, bs5, os5, bt5⟩ := WrR.pushed (x := ⟨xv, ⟨a, b⟩, xa, xt, xf, xaa, xg⟩) (N := O.length + 1 + 1) (by simp) HSZ.out BT4.out (Below.refl _ _) BS4.out OS4.out own5 (by rw [HL4.out]; exact grow5); have z5 := cell_of_box bq5 4 rfl; have fz5 := frozen_of_box bq5 4; have BS5 := Lib.hid bs5; have OS5 := Lib.hid os5; have BT5 := Lib.hid bt5; clear own5 grow5 _blk5 bq5 bs5 os5 bt5))
              go_roundw
              case rel => exact ⟨k + 1, true, _, by omega, by go_num, rfl, ⟨⟨_, _, BS5.out, OS5.out⟩, by have := HEQ.out; rw [kept_yes HKP.out, putR_hit HL.out] at this; rw [List.append_assoc, List.append_assoc]; exact this, by have := HLK.out; simp at *; omega, BT5.out⟩⟩
              case measure => simp [intOf]; omega
          · have BQ3 := Lib.hid (bx_later HB3.out BQ.out)
            have z3 := cell_of_box BQ3.out 4 rfl
            have f3 := frozen_of_box BQ3.out 4
            have HO3 := Lib.hid (own_later HO.out HB3.out)
            go_wp2_with (at_builtin; refine wpList_push elP rfl (.tmp 57) (.tmp 59) rfl rfl rfl HO3.out rfl rfl (by have := HLE.out; simp only [maxLen]; omega) (by have := HLE.out; omega) (Nat.le_trans HBU0.out.size HB3.out.size) ?_; intro v4 w4 own4 grow4 _blk4; obtain ⟨a4, g4, rfl, bq4, bs4, os4, bt4⟩ := WrR.pushed (x := ⟨xv, ⟨a, b⟩, xa, xt, xf, xaa, xg⟩) (N := O.length + 1) (by simp) HSZ.out HBU0.out HB3.out BQ3.out HO3.out own4 grow4; have z4 := cell_of_box bq4 4 rfl; have fz4 := frozen_of_box bq4 4; have BS4 := Lib.hid bs4; have OS4 := Lib.hid os4; have BT4 := Lib.hid bt4; have SZ4 := Lib.hid grow4.size; clear own4 grow4 _blk4 bq4 bs4 os4 bt4)
            go_roundw
            case rel => exact ⟨k + 1, true, _, by omega, by go_num, rfl, ⟨⟨_, _, BS4.out, OS4.out⟩, by have := HEQ.out; rw [kept_yes HKP.out, putR_laid] at this; rw [List.append_assoc]; exact this, by have := HLK.out; simp at *; omega, BT4.out⟩⟩
            case measure => simp [intOf]; omega
        · have HKP : Hid (keepW ⟨dd, ds⟩ knew ⟨xv, ⟨a, b⟩, xa, xt, xf, xaa, xg⟩ = false) := by show _ = _; unfold keepW; rw [hhv]; simp
          clear hhv
          go_wp2_with fail
          go_roundw
          case rel => exact ⟨k + 1, laid, O, by omega, by go_num, rfl, ⟨⟨_, _, bx_later HB3.out BQ.out, own_later HO0.out HB3.out⟩, by have := HEQ.out; rwa [kept_no HKP.out] at this, by have := HLK.out; omega, HBU0.out.trans (But.of_below (S := fun _ => False) HB3.out) (fun _ _ h => h.elim)⟩⟩
          case measure => simp [intOf]; omega
    · have hkn : k = n := by omega
      subst hkn
      rw [List.drop_of_length_le (by have := HLN.out; omega), show keptW [] ⟨dd, ds⟩ knew = [] from rfl] at heq
      have b1' := hold (by omega) B1.out
      have s0_ := cell_of_box b1' 0 rfl
      have s1_ := cell_of_box b1' 1 rfl
      have s2_ := cell_of_box b1' 2 rfl
      have b2' := hold (by omega) B2.out
      have t0_ := cell_of_box b2' 0 rfl
      have t1_ := cell_of_box b2' 1 rfl
      have HBEL := Lib.hid hbel
      have hr3 := hold (by omega) B3.out
      cases laid
      · rw [putR_end] at heq
        have HEQ := Lib.hid heq
        have zq := cell_of_box hbq 4 rfl
        have fq := frozen_of_box hbq 4
        clear heq b1' b2' hold hR hown hbq hbut hlen hbel hr3
        go_wp2_with (at_builtin; refine wpList_push elP rfl (.tmp 65) (.tmp 69) rfl rfl rfl HO0.out rfl rfl (by have := HLE.out; simp only [maxLen]; omega) (by have := HLE.out; omega) HBU0.out.size ?_; intro v4 w4 own4 grow4 _blk4; obtain ⟨a4, g4, rfl, bq4, bs4, os4, bt4⟩ := WrR.pushed (x := bareP v ⟨dd, ds⟩) (N := O.length + 1) (by simp) HSZ.out HBU0.out (Below.refl _ _) BQ.out HO0.out own4 grow4; have z4 := cell_of_box bq4 4 rfl; have fz4 := frozen_of_box bq4 4; have BS4 := Lib.hid bs4; have OS4 := Lib.hid os4; have BT4 := Lib.hid bt4; have q0 := cell_of_box bs4 0 rfl; have q1 := cell_of_box bs4 1 rfl; have q2 := cell_of_box bs4 2 rfl; have q3 := cell_of_box bs4 3 rfl; have q4 := cell_of_box bs4 4 rfl; have HL4 : Hid ((O ++ [bareP v ⟨dd, ds⟩]).length = O.length + 1) := (by show _ = _; simp); rw [HL4.out] at q4; have hr3 : Bx (w4.setCell ⟨w.heap.size + 4, 4, none⟩ (.slice a4 (O.length + 1) g4)) (w.heap.size + 3) _ _ := bt4.blk B3.out (by have := HSZ.out; omega); have r0 := cell_of_box hr3 0 rfl; have fr0 := frozen_of_box hr3 0; have r1 := cell_of_box hr3 1 rfl; have fr1 := frozen_of_box hr3 1; have r2 := cell_of_box hr3 2 rfl; have fr2 := frozen_of_box hr3 2; have r3 := cell_of_box hr3 3 rfl; have fr3 := frozen_of_box hr3 3; have r4 := cell_of_box hr3 4 rfl; have fr4 := frozen_of_box hr3 4; have BL4 := Lib.hid (HBEL.out.grown grow4 HBEL.out.size (fun kk hk => by have := (HO0.out.lt kk hk).1; have := HBW1.out.size; omega)); clear own4 grow4 _blk4 bq4 bs4 os4 bt4 hr3)
        refine bodyPost_ret (v := .agg #[.int .i64 kd, .int .i64 cv.k, .int .i64 cv.n, .string cv.s, .slice a4 (O.length + 1) g4]) (by simp [results, Try.results16, go_sem, r0, r1, r2, r3, r4]) rfl ⟨.slice a4 (O.length + 1) g4, rfl, ?_, ?_⟩
        · have hos := OS4.out
          unfold OwnP at hos
          rw [HL4.out] at hos
          show OwnP _ _ _ _
          rw [← HEQ.out]
          unfold OwnP
          rw [HL4.out]
          refine own_but (S := fun kk => kk = w.heap.size + 3) (own_monoP hos HBW1.out.size) ?_ fun kk hk hs => by have := (hos.lt kk hk).1; have := HSZ.out; omega
          iterate 5 (refine But.set (S := fun kk => kk = w.heap.size + 3) ?_ (by rfl) _)
          exact But.refl _ _
        · repeat' (first | with_reducible apply Below.setCell | exact BL4.out)
          all_goals (simp <;> omega)
      · have HEQ := Lib.hid heq
        have q0 := cell_of_box hbq 0 rfl
        have q1 := cell_of_box hbq 1 rfl
        have q2 := cell_of_box hbq 2 rfl
        have q3 := cell_of_box hbq 3 rfl
        have q4 := cell_of_box hbq 4 rfl
        have r0 := cell_of_box hr3 0 rfl
        have fr0 := frozen_of_box hr3 0
        have r1 := cell_of_box hr3 1 rfl
        have fr1 := frozen_of_box hr3 1
        have r2 := cell_of_box hr3 2 rfl
        have fr2 := frozen_of_box hr3 2
        have r3 := cell_of_box hr3 3 rfl
        have fr3 := frozen_of_box hr3 3
        have r4 := cell_of_box hr3 4 rfl
        have fr4 := frozen_of_box hr3 4
        clear heq b1' b2' hold hR hown hbq hbut hlen hbel hr3
        go_wp2_with fail
        refine bodyPost_ret (v := .agg #[.int .i64 kd, .int .i64 cv.k, .int .i64 cv.n, .string cv.s, .slice oa O.length oc]) (by simp [results, Try.results16, go_sem, r0, r1, r2, r3, r4]) rfl ⟨.slice oa O.length oc, rfl, ?_, ?_⟩
        · show OwnP _ _ _ _
          rw [← HEQ.out]
          unfold putR
          simp only [if_true, List.append_nil]
          refine own_but (S := fun kk => kk = w.heap.size + 3) (own_monoP HO0.out HBW1.out.size) ?_ fun kk hk hs => by have := (HO0.out.lt kk hk).1; have := HSZ.out; omega
          iterate 5 (refine But.set (S := fun kk => kk = w.heap.size + 3) ?_ (by rfl) _)
          exact But.refl _ _
        · repeat' (first | with_reducible apply Below.setCell | exact HBEL.out)
          all_goals (simp <;> omega)
end Go.Proofs.Ytagbaejgjhmokaa
