/-
  The law TxKnows. (printed by tools/gen_l17.py)
-/
import Derived.Test.YtliokkoalkhpaaaWG
import Derived.Test.YtliokkoalkhpaaaWN
namespace Go.Proofs.Ytliokkoalkhpaaa.txKnows
open Go.ChangeShapes Go.WideShapes Go.ChangeAt Go.RowKit Go.Sort Go.BigFrame Go.Proofs.Ytliokkoalkhpaaa
open Go.ChangeMaps (open_string shut_string)
attribute [local irreducible] FlowW
instance : Inhabited Col := ⟨⟨⟨#[]⟩, 0, 0, false⟩⟩
instance : Inhabited TabM := ⟨⟨⟨#[]⟩, [], .slice none 0 0, .slice none 0 0, .slice none 0 0, .slice none 0 0, .slice none 0 0⟩⟩
theorem cellsCol : Try.prog.cellsOf 56 = 4 := by kernel_rfl
theorem cellsTab : Try.prog.cellsOf 62 = 6 := by kernel_rfl
theorem cellsCols : Try.prog.cellsOf 57 = 1 := by kernel_rfl
theorem cellsTabs : Try.prog.cellsOf 49 = 1 := by kernel_rfl
theorem cellsSch : Try.prog.cellsOf 51 = 1 := by kernel_rfl
section
variable {H : Type} {enc : TypeId × Value → H} {W : World} {n : Nat} {cs : List Value} {x : DataW H × List MemPlace}
theorem opn_colT (h : DataW.trod enc Try.prog W 0 (fun _ => true) true n 56 cs = some x) (hl : cs.length = 4) : ∃ a : Col, cs = a.cs := by
  match cs, hl with
  | [c0, c1, c2, c3], _ =>
    obtain ⟨m, hf⟩ := opn_fields Try.underlying56 h
    obtain ⟨_, h0⟩ := hf 0 9 0 1 rfl txStr
    obtain ⟨_, h1⟩ := hf 1 3 1 1 rfl txInt
    obtain ⟨_, h2⟩ := hf 2 3 2 1 rfl txInt
    obtain ⟨_, h3⟩ := hf 3 4 3 1 rfl txBool
    obtain ⟨s, e0, _⟩ := opn_string Try.underlying9 h0
    obtain ⟨k, e1, _⟩ := opn_int Try.underlying3 h1
    obtain ⟨q, e2, _⟩ := opn_int Try.underlying3 h2
    obtain ⟨b, e3⟩ := opn_bool Try.underlying4 h3
    simp at e0 e1 e2 e3
    exact ⟨⟨s, k, q, b⟩, by rw [e0, e1, e2, e3]; rfl⟩
theorem opn_tabT (h : DataW.trod enc Try.prog W 0 (fun _ => true) true n 62 cs = some x) (hl : cs.length = 6) : ∃ a : TabM, cs = a.cs ∧ a.Reads W := by
  match cs, hl with
  | [c0, c1, c2, c3, c4, c5], _ =>
    obtain ⟨m, hf⟩ := opn_fields Try.underlying62 h
    obtain ⟨_, h0⟩ := hf 0 9 0 1 rfl txStr
    obtain ⟨_, h1⟩ := hf 1 57 1 1 rfl cellsCols
    obtain ⟨s, e0, _⟩ := opn_string Try.underlying9 h0
    obtain ⟨v, l, e1, hr, _⟩ := opn_list Col.cs (fun _ => True) 4 (fun _ => rfl) (by decide) elC.ty cellsCol (fun _ _ _ h hl => (opn_colT h hl).imp fun _ h => ⟨h, trivial⟩) h1
    simp at e0 e1
    exact ⟨⟨s, l, v, c2, c3, c4, c5⟩, by rw [e0, e1]; rfl, hr⟩
variable {v : Value} {d : DataW H} {p : List MemPlace} {base : Nat}
set_option maxRecDepth 100000 in
theorem open_schema (hok : Value.okWide Try.prog W .any base 51 v) (h : DataW.Trod enc Try.prog W 0 (fun _ => true) true 51 v d p) : ∃ (u : Value) (l : List TabM), v = .agg #[u] ∧ SRd W u l := by
  obtain ⟨cs, rfl, hl, hcs⟩ := opn_agg (.inl ⟨_, Try.underlying51⟩) hok
  obtain ⟨n, h⟩ := h
  rw [hcs] at h
  rw [cellsSch] at hl
  match cs, hl with
  | [c0], _ =>
    obtain ⟨m, hf⟩ := opn_fields Try.underlying51 h
    obtain ⟨_, h0⟩ := hf 0 49 0 1 rfl cellsTabs
    obtain ⟨v, l, e0, hr, hb⟩ := opn_list TabM.cs (fun a => a.Reads W) 6 (fun _ => rfl) (by decide) elTab.ty cellsTab (fun _ _ _ h hl => opn_tabT h hl) h0
    simp at e0
    exact ⟨v, l, by rw [e0], hr, hb⟩
end
theorem knows_own {deps : List Int} {dev seq q : Int} (h : ofV deps dev = seq - 1) (hq : q ≤ seq - 1) : (decide (dev = dev ∧ q = seq) || hasV deps ⟨dev, q⟩) = decide (1 ≤ q) := by
  have h1 : ¬ (dev = dev ∧ q = seq) := by omega
  rw [decide_eq_false h1, Bool.false_or]
  unfold hasV
  rw [h, decide_eq_true (p := q ≤ seq - 1) hq, Bool.and_true]
theorem knows_next {deps : List Int} {dev seq q : Int} (h : ofV deps dev = seq - 1) (hq : seq + 1 ≤ q) : (decide (dev = dev ∧ q = seq) || hasV deps ⟨dev, q⟩) = false := by
  have h1 : ¬ (dev = dev ∧ q = seq) := by omega
  have h2 : ¬ q ≤ seq - 1 := by omega
  rw [decide_eq_false h1, Bool.false_or]
  unfold hasV
  rw [h, decide_eq_false (p := q ≤ seq - 1) h2, Bool.and_false]

set_option maxRecDepth 100000 in
set_option maxHeartbeats 16000000 in
theorem walk (sv : Value) (tabs : List TabM) (t : TxM) (x : Int) (w : World) (hsr : SRd w sv tabs) (hr : t.Reads w) (hb : t.Bd) (hx : 0 ≤ x ∧ x ≤ 255) :
    Calls Try.prog 9 #[.agg #[sv], t.agg, .int .u8 x] w fun e w' => e = .returned (.bool true) ∧ Below w.heap.size w w' := by
  obtain ⟨dev, seq, time, deps, ops, els, fm, hands, note, whom, upto, vd, vo, ve, vh⟩ := t
  obtain ⟨hd, ho, he, hh⟩ := hr
  obtain ⟨hb1, hb2, hb3, hb4, hb5⟩ := hb
  replace hb1 : ∀ x ∈ [dev, seq, time, firmI fm, note, whom, upto], okI x := hb1
  dsimp only at hd ho he hh hb2 hb3 hb4 hb5
  obtain ⟨ad, cd, hvvd, hc1vd, hc2vd, -, -⟩ := id hd
  obtain ⟨nd, hnd⟩ : ∃ n, deps.length = n := ⟨_, rfl⟩
  rw [hnd] at hvvd hc1vd
  subst hvvd
  unfold maxLen at hc2vd
  have HND := Lib.hid hnd
  clear hnd
  obtain ⟨ao, co, hvvo, hc1vo, hc2vo, -, -⟩ := id ho.1
  obtain ⟨no, hno⟩ : ∃ n, ops.length = n := ⟨_, rfl⟩
  rw [hno] at hvvo hc1vo
  subst hvvo
  unfold maxLen at hc2vo
  have HNO := Lib.hid hno
  clear hno
  obtain ⟨ae, ce, hvve, hc1ve, hc2ve, -, -⟩ := id he.1
  obtain ⟨ne, hne⟩ : ∃ n, els.length = n := ⟨_, rfl⟩
  rw [hne] at hvve hc1ve
  subst hvve
  unfold maxLen at hc2ve
  have HNE := Lib.hid hne
  clear hne
  obtain ⟨ah, ch, hvvh, hc1vh, hc2vh, -, -⟩ := id hh
  obtain ⟨nh, hnh⟩ : ∃ n, hands.length = n := ⟨_, rfl⟩
  rw [hnh] at hvvh hc1vh
  subst hvvh
  unfold maxLen at hc2vh
  have HNH := Lib.hid hnh
  clear hnh
  obtain ⟨hs1, hs2⟩ := hsr
  obtain ⟨sa, sc, hsv, -⟩ := id hs1
  obtain ⟨sn, hsn⟩ : ∃ n, tabs.length = n := ⟨_, rfl⟩
  rw [hsn] at hsv hs1
  subst hsv
  change Calls Try.prog 9 #[.agg #[.slice sa sn sc], .agg #[.int .i64 dev, .int .i64 seq, .int .i64 time, .slice ad nd cd, .slice ao no co, .slice ae ne ce, .bool fm, .slice ah nh ch, .int .i64 note, .int .i64 whom, .int .i64 upto], .int .u8 x] w _
  obtain ⟨w1, hw1⟩ : ∃ w1, (w.alloc (.cells #[(.slice sa sn sc)] 51)).alloc (.cells #[(.int .i64 dev), (.int .i64 seq), (.int .i64 time), (.slice ad nd cd), (.slice ao no co), (.slice ae ne ce), (.bool fm), (.slice ah nh ch), (.int .i64 note), (.int .i64 whom), (.int .i64 upto)] 27) = w1 := ⟨_, rfl⟩
  have hb1 : Below w.heap.size w w1 := by rw [← hw1]; exact below_alloc_then (below_alloc _ _)
  have b_s : Bx w1 (w.heap.size) #[(.slice sa sn sc)] 51 := by rw [← hw1]; exact bx_later (below_alloc _ _) (bx_new (by simp))
  have b_p : Bx w1 (w.heap.size + 1) #[(.int .i64 dev), (.int .i64 seq), (.int .i64 time), (.slice ad nd cd), (.slice ao no co), (.slice ae ne ce), (.bool fm), (.slice ah nh ch), (.int .i64 note), (.int .i64 whom), (.int .i64 upto)] 27 := by rw [← hw1]; exact bx_new (by simp)
  have HW := Lib.hid hw1
  have HB1 := Lib.hid hb1
  have HB := Lib.hid (Below.refl w1.heap.size w1)
  have B_s := Lib.hid b_s
  have B_p := Lib.hid b_p
  have s0 := cell_of_box (bx_later HB.out B_s.out) 0 rfl
  have p0 := cell_of_box (bx_later HB.out B_p.out) 0 rfl
  have p1 := cell_of_box (bx_later HB.out B_p.out) 1 rfl
  have p2 := cell_of_box (bx_later HB.out B_p.out) 2 rfl
  have p3 := cell_of_box (bx_later HB.out B_p.out) 3 rfl
  have p4 := cell_of_box (bx_later HB.out B_p.out) 4 rfl
  have p5 := cell_of_box (bx_later HB.out B_p.out) 5 rfl
  have p6 := cell_of_box (bx_later HB.out B_p.out) 6 rfl
  have p7 := cell_of_box (bx_later HB.out B_p.out) 7 rfl
  have p8 := cell_of_box (bx_later HB.out B_p.out) 8 rfl
  have p9 := cell_of_box (bx_later HB.out B_p.out) 9 rfl
  have p10 := cell_of_box (bx_later HB.out B_p.out) 10 rfl
  clear hw1 hb1 b_s b_p
  have HD := Lib.hid (hd.later HB1.out)
  have HO := Lib.hid (ho.later HB1.out)
  have HE := Lib.hid (he.later HB1.out)
  have HH := Lib.hid (hh.later HB1.out)
  have HB1_ := Lib.hid hb1
  have HB2_ := Lib.hid hb2
  have HB3_ := Lib.hid hb3
  have HB4_ := Lib.hid hb4
  have HB5_ := Lib.hid hb5
  clear hd ho he hh hb1 hb2 hb3 hb4 hb5
  have HSN := Lib.hid hsn
  have HS1 := Lib.hid (hs1.later HB1.out)
  have HS2 : Hid (∀ t ∈ tabs, t.Reads w1) := Lib.hid (fun t ht => (hs2 t ht).later HB1.out)
  have HX := Lib.hid hx
  clear hsn hs1 hs2 hx
  cases hf0 : fewQ nd nh ops els
  all_goals
    have F0 := Lib.hid hf0
  · clear hf0
    go_enter Try.func9, Try.ntmps9
    go_wp2_with fail
    rw [HW.out]
    go_wp2_with fail
    refine (few_b false F0.out HNO.out HNE.out (HO.out.later HB.out) (HE.out.later HB.out)).mono ?_
    rintro e wn ⟨rfl, hb⟩
    replace HB := Lib.hid (below_then HB.out (by first | exact hb | exact below_alloc_then hb | exact below_alloc_then (below_alloc_then hb)))
    clear hb s0 p0 p1 p2 p3 p4 p5 p6 p7 p8 p9 p10
    have s0 := cell_of_box (bx_later HB.out B_s.out) 0 rfl
    have p0 := cell_of_box (bx_later HB.out B_p.out) 0 rfl
    have p1 := cell_of_box (bx_later HB.out B_p.out) 1 rfl
    have p2 := cell_of_box (bx_later HB.out B_p.out) 2 rfl
    have p3 := cell_of_box (bx_later HB.out B_p.out) 3 rfl
    have p4 := cell_of_box (bx_later HB.out B_p.out) 4 rfl
    have p5 := cell_of_box (bx_later HB.out B_p.out) 5 rfl
    have p6 := cell_of_box (bx_later HB.out B_p.out) 6 rfl
    have p7 := cell_of_box (bx_later HB.out B_p.out) 7 rfl
    have p8 := cell_of_box (bx_later HB.out B_p.out) 8 rfl
    have p9 := cell_of_box (bx_later HB.out B_p.out) 9 rfl
    have p10 := cell_of_box (bx_later HB.out B_p.out) 10 rfl
    go_wp2_with fail
    refine (alive_any _).mono ?_
    rintro e wn ⟨rfl, hb⟩
    replace HB := Lib.hid (below_then HB.out (by first | exact hb | exact below_alloc_then hb | exact below_alloc_then (below_alloc_then hb)))
    clear hb s0 p0 p1 p2 p3 p4 p5 p6 p7 p8 p9 p10
    have s0 := cell_of_box (bx_later HB.out B_s.out) 0 rfl
    have p0 := cell_of_box (bx_later HB.out B_p.out) 0 rfl
    have p1 := cell_of_box (bx_later HB.out B_p.out) 1 rfl
    have p2 := cell_of_box (bx_later HB.out B_p.out) 2 rfl
    have p3 := cell_of_box (bx_later HB.out B_p.out) 3 rfl
    have p4 := cell_of_box (bx_later HB.out B_p.out) 4 rfl
    have p5 := cell_of_box (bx_later HB.out B_p.out) 5 rfl
    have p6 := cell_of_box (bx_later HB.out B_p.out) 6 rfl
    have p7 := cell_of_box (bx_later HB.out B_p.out) 7 rfl
    have p8 := cell_of_box (bx_later HB.out B_p.out) 8 rfl
    have p9 := cell_of_box (bx_later HB.out B_p.out) 9 rfl
    have p10 := cell_of_box (bx_later HB.out B_p.out) 10 rfl
    go_wp2_with fail
    go_ret
    exact ⟨by first | rfl | exact ret_bool (by simp), below_then HB1.out HB.out⟩
  · have FF := Lib.hid (few_facts F0.out HB3_.out HB4_.out)
    have HL1 : Hid (nd ≤ 1000000) := by show _ ≤ _; have := FF.out.fd; omega
    have HL2 : Hid (no ≤ 2000) := by show _ ≤ _; have := FF.out.fo; have := HNO.out; omega
    have HL3 : Hid (ne ≤ 2000) := by show _ ≤ _; have := FF.out.fe; have := HNE.out; omega
    have HL4 : Hid (nh ≤ 2000) := by show _ ≤ _; have := FF.out.fh; omega
    clear hf0
    by_cases hlen1 : 20 < sn
    · have g1t : decide (20 < (sn : Int)) = true := decide_eq_true (by omega)
      have g2t : decide (20 < sn) = true := decide_eq_true (by omega)
      go_enter Try.func9, Try.ntmps9
      go_wp2_with fail
      rw [HW.out]
      go_wp2_with fail
      refine (few_b true F0.out HNO.out HNE.out (HO.out.later HB.out) (HE.out.later HB.out)).mono ?_
      rintro e wn ⟨rfl, hb⟩
      replace HB := Lib.hid (below_then HB.out (by first | exact hb | exact below_alloc_then hb | exact below_alloc_then (below_alloc_then hb)))
      clear hb s0 p0 p1 p2 p3 p4 p5 p6 p7 p8 p9 p10
      have s0 := cell_of_box (bx_later HB.out B_s.out) 0 rfl
      have p0 := cell_of_box (bx_later HB.out B_p.out) 0 rfl
      have p1 := cell_of_box (bx_later HB.out B_p.out) 1 rfl
      have p2 := cell_of_box (bx_later HB.out B_p.out) 2 rfl
      have p3 := cell_of_box (bx_later HB.out B_p.out) 3 rfl
      have p4 := cell_of_box (bx_later HB.out B_p.out) 4 rfl
      have p5 := cell_of_box (bx_later HB.out B_p.out) 5 rfl
      have p6 := cell_of_box (bx_later HB.out B_p.out) 6 rfl
      have p7 := cell_of_box (bx_later HB.out B_p.out) 7 rfl
      have p8 := cell_of_box (bx_later HB.out B_p.out) 8 rfl
      have p9 := cell_of_box (bx_later HB.out B_p.out) 9 rfl
      have p10 := cell_of_box (bx_later HB.out B_p.out) 10 rfl
      go_wp2_with fail
      refine (alive_any _).mono ?_
      rintro e wn ⟨rfl, hb⟩
      replace HB := Lib.hid (below_then HB.out (by first | exact hb | exact below_alloc_then hb | exact below_alloc_then (below_alloc_then hb)))
      clear hb s0 p0 p1 p2 p3 p4 p5 p6 p7 p8 p9 p10
      have s0 := cell_of_box (bx_later HB.out B_s.out) 0 rfl
      have p0 := cell_of_box (bx_later HB.out B_p.out) 0 rfl
      have p1 := cell_of_box (bx_later HB.out B_p.out) 1 rfl
      have p2 := cell_of_box (bx_later HB.out B_p.out) 2 rfl
      have p3 := cell_of_box (bx_later HB.out B_p.out) 3 rfl
      have p4 := cell_of_box (bx_later HB.out B_p.out) 4 rfl
      have p5 := cell_of_box (bx_later HB.out B_p.out) 5 rfl
      have p6 := cell_of_box (bx_later HB.out B_p.out) 6 rfl
      have p7 := cell_of_box (bx_later HB.out B_p.out) 7 rfl
      have p8 := cell_of_box (bx_later HB.out B_p.out) 8 rfl
      have p9 := cell_of_box (bx_later HB.out B_p.out) 9 rfl
      have p10 := cell_of_box (bx_later HB.out B_p.out) 10 rfl
      go_wp2_with fail
      go_ret
      exact ⟨by first | rfl | exact ret_bool (by simp), below_then HB1.out HB.out⟩
    · have g1t : decide (20 < (sn : Int)) = false := decide_eq_false (by omega)
      have g2t : decide (20 < sn) = false := decide_eq_false (by omega)
      go_enter Try.func9, Try.ntmps9
      go_wp2_with fail
      rw [HW.out]
      go_wp2_with fail
      refine (few_b true F0.out HNO.out HNE.out (HO.out.later HB.out) (HE.out.later HB.out)).mono ?_
      rintro e wn ⟨rfl, hb⟩
      replace HB := Lib.hid (below_then HB.out (by first | exact hb | exact below_alloc_then hb | exact below_alloc_then (below_alloc_then hb)))
      clear hb s0 p0 p1 p2 p3 p4 p5 p6 p7 p8 p9 p10
      have s0 := cell_of_box (bx_later HB.out B_s.out) 0 rfl
      have p0 := cell_of_box (bx_later HB.out B_p.out) 0 rfl
      have p1 := cell_of_box (bx_later HB.out B_p.out) 1 rfl
      have p2 := cell_of_box (bx_later HB.out B_p.out) 2 rfl
      have p3 := cell_of_box (bx_later HB.out B_p.out) 3 rfl
      have p4 := cell_of_box (bx_later HB.out B_p.out) 4 rfl
      have p5 := cell_of_box (bx_later HB.out B_p.out) 5 rfl
      have p6 := cell_of_box (bx_later HB.out B_p.out) 6 rfl
      have p7 := cell_of_box (bx_later HB.out B_p.out) 7 rfl
      have p8 := cell_of_box (bx_later HB.out B_p.out) 8 rfl
      have p9 := cell_of_box (bx_later HB.out B_p.out) 9 rfl
      have p10 := cell_of_box (bx_later HB.out B_p.out) 10 rfl
      go_wp2_with fail
      refine (txRight_any HND.out.symm HNO.out.symm HNE.out.symm HNH.out.symm HSN.out.symm (HND.out ▸ HD.out.later HB.out) (HNO.out ▸ (HO.out.later HB.out).1) (HO.out.later HB.out).2 (HNE.out ▸ (HE.out.later HB.out).1) (HE.out.later HB.out).2 (HNH.out ▸ HH.out.later HB.out) (HS1.out.later HB.out) (fun t ht => (HS2.out t ht).later HB.out) HL2.out HL3.out HL4.out).mono ?_
      rintro e w2 ⟨⟨m, rfl, hF⟩, hb⟩
      replace HB := Lib.hid (below_then HB.out (by first | exact hb | exact below_alloc_then hb | exact below_alloc_then (below_alloc_then hb)))
      clear hb s0 p0 p1 p2 p3 p4 p5 p6 p7 p8 p9 p10
      have s0 := cell_of_box (bx_later HB.out B_s.out) 0 rfl
      have p0 := cell_of_box (bx_later HB.out B_p.out) 0 rfl
      have p1 := cell_of_box (bx_later HB.out B_p.out) 1 rfl
      have p2 := cell_of_box (bx_later HB.out B_p.out) 2 rfl
      have p3 := cell_of_box (bx_later HB.out B_p.out) 3 rfl
      have p4 := cell_of_box (bx_later HB.out B_p.out) 4 rfl
      have p5 := cell_of_box (bx_later HB.out B_p.out) 5 rfl
      have p6 := cell_of_box (bx_later HB.out B_p.out) 6 rfl
      have p7 := cell_of_box (bx_later HB.out B_p.out) 7 rfl
      have p8 := cell_of_box (bx_later HB.out B_p.out) 8 rfl
      have p9 := cell_of_box (bx_later HB.out B_p.out) 9 rfl
      have p10 := cell_of_box (bx_later HB.out B_p.out) 10 rfl
      by_cases hm : m = 0
      case neg =>
        have hm' : (m != 0) = true := by simp [hm]
        clear hF hm
        go_wp2_with fail
        refine (alive_any _).mono ?_
        rintro e wn ⟨rfl, hb⟩
        replace HB := Lib.hid (below_then HB.out (by first | exact hb | exact below_alloc_then hb | exact below_alloc_then (below_alloc_then hb)))
        clear hb s0 p0 p1 p2 p3 p4 p5 p6 p7 p8 p9 p10
        have s0 := cell_of_box (bx_later HB.out B_s.out) 0 rfl
        have p0 := cell_of_box (bx_later HB.out B_p.out) 0 rfl
        have p1 := cell_of_box (bx_later HB.out B_p.out) 1 rfl
        have p2 := cell_of_box (bx_later HB.out B_p.out) 2 rfl
        have p3 := cell_of_box (bx_later HB.out B_p.out) 3 rfl
        have p4 := cell_of_box (bx_later HB.out B_p.out) 4 rfl
        have p5 := cell_of_box (bx_later HB.out B_p.out) 5 rfl
        have p6 := cell_of_box (bx_later HB.out B_p.out) 6 rfl
        have p7 := cell_of_box (bx_later HB.out B_p.out) 7 rfl
        have p8 := cell_of_box (bx_later HB.out B_p.out) 8 rfl
        have p9 := cell_of_box (bx_later HB.out B_p.out) 9 rfl
        have p10 := cell_of_box (bx_later HB.out B_p.out) 10 rfl
        go_wp2_with fail
        go_ret
        exact ⟨by first | rfl | exact ret_bool (by simp), below_then HB1.out HB.out⟩
      subst hm
      have F := Lib.hid (hF rfl)
      clear hF
      obtain ⟨u, hu⟩ : ∃ u, seq - 1 = u := ⟨_, rfl⟩
      obtain ⟨q, hq⟩ : ∃ q, u - x = q := ⟨_, rfl⟩
      obtain ⟨z, hz⟩ : ∃ z, seq + 1 = z := ⟨_, rfl⟩
      obtain ⟨y, hy⟩ : ∃ y, z + x = y := ⟨_, rfl⟩
      have hwu : IntKind.i64.wrap (seq - 1) = u := by have := F.out.seq1; have := F.out.seq2; rw [IntKind.wrap_i64]; omega
      have hwx : IntKind.i64.wrap x = x := by have := HX.out; rw [IntKind.wrap_i64]; omega
      have hwq : IntKind.i64.wrap (u - x) = q := by have := F.out.seq1; have := F.out.seq2; have := HX.out; rw [IntKind.wrap_i64]; omega
      have hwz : IntKind.i64.wrap (seq + 1) = z := by have := F.out.seq1; have := F.out.seq2; rw [IntKind.wrap_i64]; omega
      have hwy : IntKind.i64.wrap (z + x) = y := by have := F.out.seq1; have := F.out.seq2; have := HX.out; rw [IntKind.wrap_i64]; omega
      obtain ⟨k1, hk1⟩ : ∃ k1, decide (1 ≤ q) = k1 := ⟨_, rfl⟩
      have hk1' : decide (0 < q) = k1 := by rw [← hk1]; exact decide_eq_decide.2 (by omega)
      have hkk : (k1 == k1) = true := by simp
      have HK1 : Hid ((decide (dev = dev ∧ q = seq) || hasV deps ⟨dev, q⟩) = k1) := Lib.hid ((knows_own F.out.of (by have := HX.out; omega)).trans hk1)
      have HK2 : Hid ((decide (dev = dev ∧ y = seq) || hasV deps ⟨dev, y⟩) = false) := Lib.hid (knows_next F.out.of (by have := HX.out; omega))
      clear hu hq hz hy
      go_upto_region 5 with fail
      obtain ⟨w3, hw3⟩ : ∃ w3, w2.alloc (.cells #[.int .i64 dev, .int .i64 q] 29) = w3 := ⟨_, rfl⟩
      rw [hw3]
      have hb : Below w2.heap.size w2 w3 := by rw [← hw3]; exact below_alloc _ _
      have hx : Bx w3 w2.heap.size #[.int .i64 dev, .int .i64 q] 29 := by rw [← hw3]; exact bx_new rfl
      obtain ⟨gx, hgx⟩ : ∃ gx, w2.heap.size = gx := ⟨_, rfl⟩
      rw [hgx] at hx ⊢
      have HQX := Lib.hid hx
      clear hx hw3 hgx
      replace HB := Lib.hid (below_then HB.out (by first | exact hb | exact below_alloc_then hb | exact below_alloc_then (below_alloc_then hb)))
      clear hb s0 p0 p1 p2 p3 p4 p5 p6 p7 p8 p9 p10
      have s0 := cell_of_box (bx_later HB.out B_s.out) 0 rfl
      have p0 := cell_of_box (bx_later HB.out B_p.out) 0 rfl
      have p1 := cell_of_box (bx_later HB.out B_p.out) 1 rfl
      have p2 := cell_of_box (bx_later HB.out B_p.out) 2 rfl
      have p3 := cell_of_box (bx_later HB.out B_p.out) 3 rfl
      have p4 := cell_of_box (bx_later HB.out B_p.out) 4 rfl
      have p5 := cell_of_box (bx_later HB.out B_p.out) 5 rfl
      have p6 := cell_of_box (bx_later HB.out B_p.out) 6 rfl
      have p7 := cell_of_box (bx_later HB.out B_p.out) 7 rfl
      have p8 := cell_of_box (bx_later HB.out B_p.out) 8 rfl
      have p9 := cell_of_box (bx_later HB.out B_p.out) 9 rfl
      have p10 := cell_of_box (bx_later HB.out B_p.out) 10 rfl
      go_upto_region 6 with fail
      obtain ⟨w4, hw4⟩ : ∃ w4, w3.alloc (.cells #[.int .i64 dev, .int .i64 y] 29) = w4 := ⟨_, rfl⟩
      rw [hw4]
      have hb : Below w3.heap.size w3 w4 := by rw [← hw4]; exact below_alloc _ _
      have hx : Bx w4 w3.heap.size #[.int .i64 dev, .int .i64 y] 29 := by rw [← hw4]; exact bx_new rfl
      obtain ⟨gy, hgy⟩ : ∃ gy, w3.heap.size = gy := ⟨_, rfl⟩
      rw [hgy] at hx ⊢
      have HQY := Lib.hid hx
      clear hx hw4 hgy
      replace HQX := Lib.hid (bx_later hb HQX.out)
      replace HB := Lib.hid (below_then HB.out (by first | exact hb | exact below_alloc_then hb | exact below_alloc_then (below_alloc_then hb)))
      clear hb s0 p0 p1 p2 p3 p4 p5 p6 p7 p8 p9 p10
      have s0 := cell_of_box (bx_later HB.out B_s.out) 0 rfl
      have p0 := cell_of_box (bx_later HB.out B_p.out) 0 rfl
      have p1 := cell_of_box (bx_later HB.out B_p.out) 1 rfl
      have p2 := cell_of_box (bx_later HB.out B_p.out) 2 rfl
      have p3 := cell_of_box (bx_later HB.out B_p.out) 3 rfl
      have p4 := cell_of_box (bx_later HB.out B_p.out) 4 rfl
      have p5 := cell_of_box (bx_later HB.out B_p.out) 5 rfl
      have p6 := cell_of_box (bx_later HB.out B_p.out) 6 rfl
      have p7 := cell_of_box (bx_later HB.out B_p.out) 7 rfl
      have p8 := cell_of_box (bx_later HB.out B_p.out) 8 rfl
      have p9 := cell_of_box (bx_later HB.out B_p.out) 9 rfl
      have p10 := cell_of_box (bx_later HB.out B_p.out) 10 rfl
      have x0 := cell_of_box HQX.out 0 rfl
      have x1 := cell_of_box HQX.out 1 rfl
      have y0 := cell_of_box HQY.out 0 rfl
      have y1 := cell_of_box HQY.out 1 rfl
      clear hwu hwx hwq hwz hwy
      have HN := Lib.hid F.out.note
      by_cases hnote : note = 0
      · subst hnote
        cases fm
        · obtain rfl : nh = 0 := F.out.hands rfl
          go_wp2_with fail
          refine (alive_any _).mono ?_
          rintro e wn ⟨rfl, hb⟩
          replace HB := Lib.hid (below_then HB.out hb)
          replace HQX := Lib.hid (bx_later hb HQX.out)
          replace HQY := Lib.hid (bx_later hb HQY.out)
          clear hb s0 p0 p1 p2 p3 p4 p5 p6 p7 p8 p9 p10 x0 x1 y0 y1
          have s0 := cell_of_box (bx_later HB.out B_s.out) 0 rfl
          have p0 := cell_of_box (bx_later HB.out B_p.out) 0 rfl
          have p1 := cell_of_box (bx_later HB.out B_p.out) 1 rfl
          have p2 := cell_of_box (bx_later HB.out B_p.out) 2 rfl
          have p3 := cell_of_box (bx_later HB.out B_p.out) 3 rfl
          have p4 := cell_of_box (bx_later HB.out B_p.out) 4 rfl
          have p5 := cell_of_box (bx_later HB.out B_p.out) 5 rfl
          have p6 := cell_of_box (bx_later HB.out B_p.out) 6 rfl
          have p7 := cell_of_box (bx_later HB.out B_p.out) 7 rfl
          have p8 := cell_of_box (bx_later HB.out B_p.out) 8 rfl
          have p9 := cell_of_box (bx_later HB.out B_p.out) 9 rfl
          have p10 := cell_of_box (bx_later HB.out B_p.out) 10 rfl
          have x0 := cell_of_box HQX.out 0 rfl
          have x1 := cell_of_box HQX.out 1 rfl
          have y0 := cell_of_box HQY.out 0 rfl
          have y1 := cell_of_box HQY.out 1 rfl
          go_wp2_with fail
          refine (knew_b k1 (by simpa using HK1.out) HND.out (HD.out.later HB.out)).mono ?_
          rintro e wn ⟨rfl, hb⟩
          replace HB := Lib.hid (below_then HB.out hb)
          replace HQX := Lib.hid (bx_later hb HQX.out)
          replace HQY := Lib.hid (bx_later hb HQY.out)
          clear hb s0 p0 p1 p2 p3 p4 p5 p6 p7 p8 p9 p10 x0 x1 y0 y1
          have s0 := cell_of_box (bx_later HB.out B_s.out) 0 rfl
          have p0 := cell_of_box (bx_later HB.out B_p.out) 0 rfl
          have p1 := cell_of_box (bx_later HB.out B_p.out) 1 rfl
          have p2 := cell_of_box (bx_later HB.out B_p.out) 2 rfl
          have p3 := cell_of_box (bx_later HB.out B_p.out) 3 rfl
          have p4 := cell_of_box (bx_later HB.out B_p.out) 4 rfl
          have p5 := cell_of_box (bx_later HB.out B_p.out) 5 rfl
          have p6 := cell_of_box (bx_later HB.out B_p.out) 6 rfl
          have p7 := cell_of_box (bx_later HB.out B_p.out) 7 rfl
          have p8 := cell_of_box (bx_later HB.out B_p.out) 8 rfl
          have p9 := cell_of_box (bx_later HB.out B_p.out) 9 rfl
          have p10 := cell_of_box (bx_later HB.out B_p.out) 10 rfl
          have x0 := cell_of_box HQX.out 0 rfl
          have x1 := cell_of_box HQX.out 1 rfl
          have y0 := cell_of_box HQY.out 0 rfl
          have y1 := cell_of_box HQY.out 1 rfl
          go_wp2_with fail
          refine (knew_b false (by simpa using HK2.out) HND.out (HD.out.later HB.out)).mono ?_
          rintro e wn ⟨rfl, hb⟩
          replace HB := Lib.hid (below_then HB.out hb)
          replace HQX := Lib.hid (bx_later hb HQX.out)
          replace HQY := Lib.hid (bx_later hb HQY.out)
          clear hb s0 p0 p1 p2 p3 p4 p5 p6 p7 p8 p9 p10 x0 x1 y0 y1
          have s0 := cell_of_box (bx_later HB.out B_s.out) 0 rfl
          have p0 := cell_of_box (bx_later HB.out B_p.out) 0 rfl
          have p1 := cell_of_box (bx_later HB.out B_p.out) 1 rfl
          have p2 := cell_of_box (bx_later HB.out B_p.out) 2 rfl
          have p3 := cell_of_box (bx_later HB.out B_p.out) 3 rfl
          have p4 := cell_of_box (bx_later HB.out B_p.out) 4 rfl
          have p5 := cell_of_box (bx_later HB.out B_p.out) 5 rfl
          have p6 := cell_of_box (bx_later HB.out B_p.out) 6 rfl
          have p7 := cell_of_box (bx_later HB.out B_p.out) 7 rfl
          have p8 := cell_of_box (bx_later HB.out B_p.out) 8 rfl
          have p9 := cell_of_box (bx_later HB.out B_p.out) 9 rfl
          have p10 := cell_of_box (bx_later HB.out B_p.out) 10 rfl
          have x0 := cell_of_box HQX.out 0 rfl
          have x1 := cell_of_box HQX.out 1 rfl
          have y0 := cell_of_box HQY.out 0 rfl
          have y1 := cell_of_box HQY.out 1 rfl
          go_wp2_with fail
          go_ret
          exact ⟨by first | rfl | exact ret_bool (by simp), below_then HB1.out HB.out⟩
        · obtain rfl : ne = 0 := F.out.els rfl
          go_wp2_with fail
          refine (alive_any _).mono ?_
          rintro e wn ⟨rfl, hb⟩
          replace HB := Lib.hid (below_then HB.out hb)
          replace HQX := Lib.hid (bx_later hb HQX.out)
          replace HQY := Lib.hid (bx_later hb HQY.out)
          clear hb s0 p0 p1 p2 p3 p4 p5 p6 p7 p8 p9 p10 x0 x1 y0 y1
          have s0 := cell_of_box (bx_later HB.out B_s.out) 0 rfl
          have p0 := cell_of_box (bx_later HB.out B_p.out) 0 rfl
          have p1 := cell_of_box (bx_later HB.out B_p.out) 1 rfl
          have p2 := cell_of_box (bx_later HB.out B_p.out) 2 rfl
          have p3 := cell_of_box (bx_later HB.out B_p.out) 3 rfl
          have p4 := cell_of_box (bx_later HB.out B_p.out) 4 rfl
          have p5 := cell_of_box (bx_later HB.out B_p.out) 5 rfl
          have p6 := cell_of_box (bx_later HB.out B_p.out) 6 rfl
          have p7 := cell_of_box (bx_later HB.out B_p.out) 7 rfl
          have p8 := cell_of_box (bx_later HB.out B_p.out) 8 rfl
          have p9 := cell_of_box (bx_later HB.out B_p.out) 9 rfl
          have p10 := cell_of_box (bx_later HB.out B_p.out) 10 rfl
          have x0 := cell_of_box HQX.out 0 rfl
          have x1 := cell_of_box HQX.out 1 rfl
          have y0 := cell_of_box HQY.out 0 rfl
          have y1 := cell_of_box HQY.out 1 rfl
          go_wp2_with fail
          refine (knew_b k1 (by simpa using HK1.out) HND.out (HD.out.later HB.out)).mono ?_
          rintro e wn ⟨rfl, hb⟩
          replace HB := Lib.hid (below_then HB.out hb)
          replace HQX := Lib.hid (bx_later hb HQX.out)
          replace HQY := Lib.hid (bx_later hb HQY.out)
          clear hb s0 p0 p1 p2 p3 p4 p5 p6 p7 p8 p9 p10 x0 x1 y0 y1
          have s0 := cell_of_box (bx_later HB.out B_s.out) 0 rfl
          have p0 := cell_of_box (bx_later HB.out B_p.out) 0 rfl
          have p1 := cell_of_box (bx_later HB.out B_p.out) 1 rfl
          have p2 := cell_of_box (bx_later HB.out B_p.out) 2 rfl
          have p3 := cell_of_box (bx_later HB.out B_p.out) 3 rfl
          have p4 := cell_of_box (bx_later HB.out B_p.out) 4 rfl
          have p5 := cell_of_box (bx_later HB.out B_p.out) 5 rfl
          have p6 := cell_of_box (bx_later HB.out B_p.out) 6 rfl
          have p7 := cell_of_box (bx_later HB.out B_p.out) 7 rfl
          have p8 := cell_of_box (bx_later HB.out B_p.out) 8 rfl
          have p9 := cell_of_box (bx_later HB.out B_p.out) 9 rfl
          have p10 := cell_of_box (bx_later HB.out B_p.out) 10 rfl
          have x0 := cell_of_box HQX.out 0 rfl
          have x1 := cell_of_box HQX.out 1 rfl
          have y0 := cell_of_box HQY.out 0 rfl
          have y1 := cell_of_box HQY.out 1 rfl
          go_wp2_with fail
          refine (knew_b false (by simpa using HK2.out) HND.out (HD.out.later HB.out)).mono ?_
          rintro e wn ⟨rfl, hb⟩
          replace HB := Lib.hid (below_then HB.out hb)
          replace HQX := Lib.hid (bx_later hb HQX.out)
          replace HQY := Lib.hid (bx_later hb HQY.out)
          clear hb s0 p0 p1 p2 p3 p4 p5 p6 p7 p8 p9 p10 x0 x1 y0 y1
          have s0 := cell_of_box (bx_later HB.out B_s.out) 0 rfl
          have p0 := cell_of_box (bx_later HB.out B_p.out) 0 rfl
          have p1 := cell_of_box (bx_later HB.out B_p.out) 1 rfl
          have p2 := cell_of_box (bx_later HB.out B_p.out) 2 rfl
          have p3 := cell_of_box (bx_later HB.out B_p.out) 3 rfl
          have p4 := cell_of_box (bx_later HB.out B_p.out) 4 rfl
          have p5 := cell_of_box (bx_later HB.out B_p.out) 5 rfl
          have p6 := cell_of_box (bx_later HB.out B_p.out) 6 rfl
          have p7 := cell_of_box (bx_later HB.out B_p.out) 7 rfl
          have p8 := cell_of_box (bx_later HB.out B_p.out) 8 rfl
          have p9 := cell_of_box (bx_later HB.out B_p.out) 9 rfl
          have p10 := cell_of_box (bx_later HB.out B_p.out) 10 rfl
          have x0 := cell_of_box HQX.out 0 rfl
          have x1 := cell_of_box HQX.out 1 rfl
          have y0 := cell_of_box HQY.out 0 rfl
          have y1 := cell_of_box HQY.out 1 rfl
          go_wp2_with fail
          go_ret
          exact ⟨by first | rfl | exact ret_bool (by simp), below_then HB1.out HB.out⟩
      · obtain ⟨rfl, rfl, rfl, rfl⟩ := HN.out.resolve_left hnote
        have hn' : (note == 0) = false := by simp [hnote]
        clear hnote
        go_wp2_with fail
        refine (alive_any _).mono ?_
        rintro e wn ⟨rfl, hb⟩
        replace HB := Lib.hid (below_then HB.out hb)
        replace HQX := Lib.hid (bx_later hb HQX.out)
        replace HQY := Lib.hid (bx_later hb HQY.out)
        clear hb s0 p0 p1 p2 p3 p4 p5 p6 p7 p8 p9 p10 x0 x1 y0 y1
        have s0 := cell_of_box (bx_later HB.out B_s.out) 0 rfl
        have p0 := cell_of_box (bx_later HB.out B_p.out) 0 rfl
        have p1 := cell_of_box (bx_later HB.out B_p.out) 1 rfl
        have p2 := cell_of_box (bx_later HB.out B_p.out) 2 rfl
        have p3 := cell_of_box (bx_later HB.out B_p.out) 3 rfl
        have p4 := cell_of_box (bx_later HB.out B_p.out) 4 rfl
        have p5 := cell_of_box (bx_later HB.out B_p.out) 5 rfl
        have p6 := cell_of_box (bx_later HB.out B_p.out) 6 rfl
        have p7 := cell_of_box (bx_later HB.out B_p.out) 7 rfl
        have p8 := cell_of_box (bx_later HB.out B_p.out) 8 rfl
        have p9 := cell_of_box (bx_later HB.out B_p.out) 9 rfl
        have p10 := cell_of_box (bx_later HB.out B_p.out) 10 rfl
        have x0 := cell_of_box HQX.out 0 rfl
        have x1 := cell_of_box HQX.out 1 rfl
        have y0 := cell_of_box HQY.out 0 rfl
        have y1 := cell_of_box HQY.out 1 rfl
        go_wp2_with fail
        refine (knew_b k1 (by simpa using HK1.out) HND.out (HD.out.later HB.out)).mono ?_
        rintro e wn ⟨rfl, hb⟩
        replace HB := Lib.hid (below_then HB.out hb)
        replace HQX := Lib.hid (bx_later hb HQX.out)
        replace HQY := Lib.hid (bx_later hb HQY.out)
        clear hb s0 p0 p1 p2 p3 p4 p5 p6 p7 p8 p9 p10 x0 x1 y0 y1
        have s0 := cell_of_box (bx_later HB.out B_s.out) 0 rfl
        have p0 := cell_of_box (bx_later HB.out B_p.out) 0 rfl
        have p1 := cell_of_box (bx_later HB.out B_p.out) 1 rfl
        have p2 := cell_of_box (bx_later HB.out B_p.out) 2 rfl
        have p3 := cell_of_box (bx_later HB.out B_p.out) 3 rfl
        have p4 := cell_of_box (bx_later HB.out B_p.out) 4 rfl
        have p5 := cell_of_box (bx_later HB.out B_p.out) 5 rfl
        have p6 := cell_of_box (bx_later HB.out B_p.out) 6 rfl
        have p7 := cell_of_box (bx_later HB.out B_p.out) 7 rfl
        have p8 := cell_of_box (bx_later HB.out B_p.out) 8 rfl
        have p9 := cell_of_box (bx_later HB.out B_p.out) 9 rfl
        have p10 := cell_of_box (bx_later HB.out B_p.out) 10 rfl
        have x0 := cell_of_box HQX.out 0 rfl
        have x1 := cell_of_box HQX.out 1 rfl
        have y0 := cell_of_box HQY.out 0 rfl
        have y1 := cell_of_box HQY.out 1 rfl
        go_wp2_with fail
        refine (knew_b false (by simpa using HK2.out) HND.out (HD.out.later HB.out)).mono ?_
        rintro e wn ⟨rfl, hb⟩
        replace HB := Lib.hid (below_then HB.out hb)
        replace HQX := Lib.hid (bx_later hb HQX.out)
        replace HQY := Lib.hid (bx_later hb HQY.out)
        clear hb s0 p0 p1 p2 p3 p4 p5 p6 p7 p8 p9 p10 x0 x1 y0 y1
        have s0 := cell_of_box (bx_later HB.out B_s.out) 0 rfl
        have p0 := cell_of_box (bx_later HB.out B_p.out) 0 rfl
        have p1 := cell_of_box (bx_later HB.out B_p.out) 1 rfl
        have p2 := cell_of_box (bx_later HB.out B_p.out) 2 rfl
        have p3 := cell_of_box (bx_later HB.out B_p.out) 3 rfl
        have p4 := cell_of_box (bx_later HB.out B_p.out) 4 rfl
        have p5 := cell_of_box (bx_later HB.out B_p.out) 5 rfl
        have p6 := cell_of_box (bx_later HB.out B_p.out) 6 rfl
        have p7 := cell_of_box (bx_later HB.out B_p.out) 7 rfl
        have p8 := cell_of_box (bx_later HB.out B_p.out) 8 rfl
        have p9 := cell_of_box (bx_later HB.out B_p.out) 9 rfl
        have p10 := cell_of_box (bx_later HB.out B_p.out) 10 rfl
        have x0 := cell_of_box HQX.out 0 rfl
        have x1 := cell_of_box HQX.out 1 rfl
        have y0 := cell_of_box HQY.out 0 rfl
        have y1 := cell_of_box HQY.out 1 rfl
        go_wp2_with fail
        go_ret
        exact ⟨by first | rfl | exact ret_bool (by simp), below_then HB1.out HB.out⟩

set_option maxRecDepth 100000 in
theorem lifted (os : Os) (started : os.Started) (H : Type) (enc : TypeId × Value → H) :
    ReturnsInHanded {} Try.checked os 9 .any (Rows.txKnowsSpec.pre6 enc Try.prog Try.f9 Rows.txKnowsRow.domain false) (Rows.txKnowsSpec.post enc Try.prog Try.f9 false true false false) := by
  refine returnsInHanded_of_change_sized (C := Try.checked) ownKnob_none started (by kernel_rfl) Try.func9
    (ChangeSpec.witness6 (enc := enc) (C := Try.checked) false ⟨#[], #[.agg #[.slice none 0 0], .agg #[.int .i64 0, .int .i64 0, .int .i64 0, .slice none 0 0, .slice none 0 0, .slice none 0 0, .bool false, .slice none 0 0, .int .i64 0, .int .i64 0, .int .i64 0], .int .u8 0], []⟩ 8 (by kernel_rfl) (by kernel_rfl) (by kernel_rfl) (by kernel_rfl)) ?_
  intro W base args ds gs before hval0 hW hcnd hsz0 _
  have hval : ∀ (j : Nat) t v, Try.f9.params[j]? = some t → args[j]? = some v → Value.okWide Try.prog W .any base t v := hval0
  have hW' := hW
  obtain ⟨p, q, hA0, hV, rfl, hfz, hnd⟩ := hW
  have hA : DataW.TrodAll enc Try.prog W 0 (fun _ => true) true Try.f9.params.toList args.toList ds p := hA0
  have hsz : (DataW.weightsEach Try.prog (Try.f9.params.toList ++ Rows.txKnowsSpec.plain.varTypes Try.prog) (ds ++ gs)).all (· ≤ reachBytes) = true := hsz0
  rw [Try.params9] at hA hval hsz
  obtain ⟨v0, vs0, d0, ds0, p0, q0, hargs, rfl, rfl, h0, r0r⟩ := trodAll_cons hA
  obtain ⟨v1, vs1, d1, ds1, p1, q1, rfl, rfl, rfl, h1, r1r⟩ := trodAll_cons r0r
  obtain ⟨v2, vs2, d2, ds2, p2, q2, rfl, rfl, rfl, h2, r2r⟩ := trodAll_cons r1r
  obtain ⟨rfl, rfl, rfl⟩ := trodAll_nil r2r
  obtain rfl : args = #[v0, v1, v2] := by cases args; simp_all
  obtain ⟨rfl, rfl⟩ := trodVars_none hV
  have g0 := sized_at hsz (j := 0) rfl rfl
  have g1 := sized_at hsz (j := 1) rfl rfl
  have g2 := sized_at hsz (j := 2) rfl rfl
  obtain ⟨y0_0, y0_1, rfl, f0_0⟩ := open_schema (hval 0 51 v0 rfl rfl) h0
  obtain ⟨y1_0, rfl, f1_0, f1_1⟩ := open_tx (hval 1 27 v1 rfl rfl) h1
  obtain ⟨a2, rfl, rfl, rfl, w2⟩ := open_int Try.underlying5 (hval 2 5 v2 rfl rfl) h2
  refine (walk y0_0 y0_1 y1_0 a2 W f0_0 f1_0 f1_1 (wf_u8T w2)).mono fun e W' ⟨he, hg⟩ => ⟨_, he, law_post laidOut (by kernel_rfl) rfl Try.underlying4 rfl rfl hW' hg⟩

theorem over : Rows.txKnowsRow.holds Try.pinned (OpenSpec.ofChange Rows.txKnowsSpec) :=
  OpenClaim.holds_of_wide 9 Try.f9 rfl rfl rfl rfl rfl rfl rfl ⟨rfl, rfl, rfl, rfl, rfl⟩ rfl rfl rfl rfl rfl (by kernel_rfl) Try.func9 (by kernel_rfl)
    (of_decide_eq_true (by kernel_rfl)) (by unfold Func.isWrapper; first | (rw [if_pos (by decide +kernel)]; kernel_rfl) | (rw [if_neg (by decide +kernel)]; exact ⟨rfl, rfl⟩))
    (fun os started H enc _ => lifted os started H enc)

/-- THE STATEMENT. -/
theorem proved : Rows.TxKnowsSaid :=
  over
#print axioms proved
end Go.Proofs.Ytliokkoalkhpaaa.txKnows
