/-
  Layer 9 (bag): slices.Clone at parts; Put. (printed by tools/gen_gc.py)
-/
import Derived.Test.YtnpciogpegmejaaGA
namespace Go.Proofs.Ytnpciogpegmejaa
open Go.RowKit Go.Sort Go.BigFrame

theorem run_eql_nil {P : Program} {t e : TypeId} (h : P.underlying t = some (.slice e)) (a : Option Addr) (n c n' c' : Nat) (w : World) : (binOp .eql t (.slice a n c) (.slice none n' c')).run P w = .ok (.bool a.isNone) w := by
  simp only [binOp]
  simp [Op.equal, Op.maxDepth, Lib.run_equalIn_slice_nil w 9999 t e a n c n' c' h]
set_option maxRecDepth 100000 in
set_option maxHeartbeats 1000000 in
theorem cloneP_any (v : Value) (l : List Prt) (w : World) (h : Rd w v l.length (prtCs l)) (hn : l.length ≤ 1000000) :
    Calls Try.prog 43 #[v] w (OwnPostP w l) := by
  obtain ⟨ao, c, rfl, hnc, hcm, hnone, _⟩ := id h
  have HA := Lib.hid h
  have HL := Lib.hid (prtCs_length l)
  obtain ⟨n, hln⟩ : ∃ n, l.length = n := ⟨_, rfl⟩
  cases ao with
  | none =>
    have hc0 : c = 0 := hnone rfl
    have hl0 : l = [] := List.eq_nil_of_length_eq_zero (by omega)
    subst hl0 hc0
    clear h hnone hcm hnc
    have hnil := run_eql_nil (P := Try.prog) elP.ty none 0 0 0 0
    simp only [Option.isNone_none] at hnil
    go_enter Try.func43, Try.ntmps43
    go_wp2
    go_ret
    exact ⟨_, rfl, World.ownsRow_nil _ _ _ _, Below.refl _ _⟩
  | some a =>
    rw [hln] at hnc hn ⊢
    have HLN := Lib.hid hln
    unfold maxLen at hcm
    clear h hnone hln
    have hnil := run_eql_nil (P := Try.prog) elP.ty (some a) n c 0 0
    simp only [Option.isNone_some] at hnil
    go_enter Try.func43, Try.ntmps43
    have hown : (w.alloc (.cells #[] 43)).ownsRow w.heap.size 43 11 (.slice (some ⟨w.heap.size, 0, none⟩) 0 0) 0 [] := World.ownsRow_lit w #[] 0 (Nat.le_refl _) (by decide) rfl
    have hsrc : Src Try.prog (w.alloc (.cells #[] 43)) 11 (.slice (some a) n c) n (prtCs l) := Src.of_rd (by have := HA.out.later (below_alloc w (.cells #[] 43)); rwa [HLN.out] at this) (by rw [HL.out, HLN.out])
    go_wp2_with (at_builtin; refine wpList_app elP ⟨_, elP.ty, fun k h => by cases h⟩ rfl (.tmp 5) (.tmp 6) rfl rfl rfl hown hsrc (oneP l) (by simp only [maxLen]; omega) (by omega) (by simp) ?_; intro v' w' own' grow' blk')
    have hb := (below_alloc w (.cells #[] 43)).grown grow' (by simp) (fun k hk => (hown.lt k hk).1)
    have HO := Lib.hid own'
    have HB := Lib.hid hb
    clear own' grow' blk' hb hown hsrc
    go_wp2_with fail
    go_ret
    refine ⟨_, rfl, ?_, HB.out⟩
    have := HO.out
    rw [Nat.zero_add, List.nil_append] at this
    show World.ownsRow _ _ _ _ _ _ _
    rw [HLN.out]
    exact this

theorem putQ_at {p : Prt} : ∀ {l : List Prt} {i : Nat}, (∀ y ∈ l.take i, ltQ p y = false) → (l.length ≤ i ∨ ∃ x, l[i]? = some x ∧ ltQ p x = true) → l.take i ++ p :: l.drop i = putQ p l
  | [], i, _, _ => by simp [putQ]
  | y :: l, 0, _, h => by
    rcases h with h | ⟨x, hx, h⟩
    · simp at h
    · cases hx
      unfold putQ
      rw [List.takeWhile_cons_of_neg (by simpa using h), List.dropWhile_cons_of_neg (by simpa using h)]; rfl
  | y :: l, i + 1, h0, h => by
    have hy : ltQ p y = false := h0 y (by simp)
    have ih := putQ_at (p := p) (l := l) (i := i) (fun q hq => h0 q (by simp [hq])) (by simpa using h)
    unfold putQ at ih ⊢
    rw [List.takeWhile_cons_of_pos (by simpa using hy), List.dropWhile_cons_of_pos (by simpa using hy)]
    simp only [List.take_succ_cons, List.drop_succ_cons, List.cons_append, ih]

/-- Behind k parts: the place at which a part is to stand, as far as one can tell. -/
structure AtQ (l : List Prt) (p : Prt) (k a : Nat) : Prop where
  no : ∀ y ∈ l.take k, eqQ y p = false
  lo : ∀ y ∈ l.take (min a k), ltQ p y = false
  hi : (a = l.length ∧ ∀ y ∈ l.take k, ltQ p y = false) ∨ (a < k ∧ ∃ y, l[a]? = some y ∧ ltQ p y = true)
theorem AtQ.start (l : List Prt) (p : Prt) : AtQ l p 0 l.length := ⟨by simp, by simp, .inl ⟨rfl, by simp⟩⟩
theorem take_next {l : List Prt} {k : Nat} (hk : k < l.length) {x : Prt} (hx : l[k] = x) {P : Prt → Prop} (h : ∀ y ∈ l.take k, P y) (h' : P x) : ∀ y ∈ l.take (k + 1), P y := by
  intro y hy
  rw [List.take_succ_eq_append_getElem hk] at hy
  rcases List.mem_append.1 hy with hy | hy
  · exact h y hy
  · rw [List.mem_singleton.1 hy, hx]; exact h'
theorem AtQ.skip {l : List Prt} {p x : Prt} {k a : Nat} (h : AtQ l p k a) (hk : k < l.length) (hx : l[k] = x) (he : eqQ x p = false) (hl : ltQ p x = false) : AtQ l p (k + 1) a := by
  refine ⟨take_next hk hx h.no he, ?_, ?_⟩
  · rcases h.hi with ⟨ha, hh⟩ | ⟨ha, _⟩
    · rw [ha, show min l.length (k + 1) = k + 1 by omega]; exact take_next hk hx hh hl
    · rw [show min a (k + 1) = min a k by omega]; exact h.lo
  · rcases h.hi with ⟨ha, hh⟩ | ⟨ha, hh⟩
    · exact .inl ⟨ha, take_next hk hx hh hl⟩
    · exact .inr ⟨by omega, hh⟩
theorem AtQ.found {l : List Prt} {p x : Prt} {k : Nat} (h : AtQ l p k l.length) (hk : k < l.length) (hx : l[k] = x) (he : eqQ x p = false) (hl : ltQ p x = true) : AtQ l p (k + 1) k := by
  refine ⟨take_next hk hx h.no he, ?_, .inr ⟨by omega, x, by rw [List.getElem?_eq_getElem hk, hx], hl⟩⟩
  rw [show min k (k + 1) = k by omega]
  rcases h.hi with ⟨_, hh⟩ | ⟨ha, _⟩
  · exact hh
  · omega
theorem AtQ.past {l : List Prt} {p x : Prt} {k a : Nat} (h : AtQ l p k a) (hk : k < l.length) (hx : l[k] = x) (he : eqQ x p = false) (ha : a ≠ l.length) : AtQ l p (k + 1) a := by
  rcases h.hi with ⟨ha', _⟩ | ⟨ha', hh⟩
  · exact absurd ha' ha
  · refine ⟨take_next hk hx h.no he, ?_, .inr ⟨by omega, hh⟩⟩
    rw [show min a (k + 1) = min a k by omega]; exact h.lo
theorem AtQ.done {l : List Prt} {n : Int} {d : Dt} {a : Nat} (h : AtQ l (numP n d) l.length a) : a ≤ l.length ∧ addQ l n d = l.take a ++ numP n d :: l.drop a := by
  have hno := h.no
  rw [List.take_length] at hno
  have hin : inQ l (numP n d) = false := by
    unfold inQ
    exact List.any_eq_false.2 fun y hy => by rw [hno y hy]; simp
  have hal : a ≤ l.length := by rcases h.hi with ⟨ha, _⟩ | ⟨ha, _⟩ <;> omega
  refine ⟨hal, ?_⟩
  unfold addQ
  rw [if_neg (by rw [hin]; simp)]
  refine (putQ_at ?_ ?_).symm
  · have := h.lo; rwa [show min a l.length = a by omega] at this
  · rcases h.hi with ⟨ha, _⟩ | ⟨_, hh⟩
    · exact .inl (by omega)
    · exact .inr hh
theorem addQ_there {l : List Prt} {n : Int} {d : Dt} {k : Nat} {x : Prt} (hk : k < l.length) (hx : l[k] = x) (he : eqQ x (numP n d) = true) : addQ l n d = l := by
  unfold addQ
  rw [if_pos (inQ_iff.2 ⟨x, by rw [← hx]; exact List.getElem_mem hk, eqQ_iff.1 he⟩)]

set_option maxRecDepth 100000 in
set_option maxHeartbeats 16000000 in
theorem bput_any (kd ck cn : Int) (cs : ByteArray) (n : Int) (va : Value) (l : List Prt) (d : Dt) (w : World) (ha : PRd w va l) (hl : l.length ≤ 1000) :
    Calls Try.prog 15 #[.agg #[.int .i64 kd, .int .i64 ck, .int .i64 cn, .string cs, va], .int .i64 n, d.agg] w (CellPost kd ⟨ck, cn, cs⟩ w (addQ l n d)) := by
  obtain ⟨ao, cc, rfl, hnc, hcm, -, -⟩ := id ha
  obtain ⟨dd, dq⟩ := d
  obtain ⟨N, hN⟩ : ∃ N, l.length = N := ⟨_, rfl⟩
  have HA0 := Lib.hid ha
  have HN := Lib.hid hN
  rw [hN] at hnc hl ⊢
  unfold maxLen at hcm
  obtain ⟨w1, hw1⟩ : ∃ w1, (((w.alloc (.cells #[.int .i64 kd, .int .i64 ck, .int .i64 cn, .string cs, .slice ao N cc] 26)).alloc (.cells #[.int .i64 dd, .int .i64 dq] 37)).alloc (.cells #[.int .i64 0, .int .i64 0, .int .i64 0, .string ⟨#[]⟩, .slice none 0 0] 26)).alloc (.cells #[.int .i64 n, .int .i64 dd, .int .i64 dq] 59) = w1 := ⟨_, rfl⟩
  have hb1 : Below w.heap.size w w1 := by rw [← hw1]; exact below_alloc_then (below_alloc_then (below_alloc_then (below_alloc _ _)))
  have hsz : w1.heap.size = w.heap.size + 4 := by rw [← hw1]; simp
  have b0 : Bx w1 w.heap.size #[.int .i64 kd, .int .i64 ck, .int .i64 cn, .string cs, .slice ao N cc] 26 := by rw [← hw1]; exact bx_later (below_alloc_then (below_alloc_then (below_alloc _ _))) (bx_new (by simp))
  have b1 : Bx w1 (w.heap.size + 1) #[.int .i64 dd, .int .i64 dq] 37 := by rw [← hw1]; exact bx_later (below_alloc_then (below_alloc _ _)) (bx_new (by simp))
  have b2 : Bx w1 (w.heap.size + 2) #[.int .i64 0, .int .i64 0, .int .i64 0, .string ⟨#[]⟩, .slice none 0 0] 26 := by rw [← hw1]; exact bx_later (below_alloc _ _) (bx_new (by simp))
  have hmf : ∀ (fn : Fn) (first cap : Array Value) (w : World), (Instr.makeFunc fn first cap).run Try.prog w = .ok (.func fn first cap) w := fun _ _ _ _ => rfl
  have HA := Lib.hid (HA0.out.later hb1)
  have HW1 := Lib.hid hw1
  have HBW1 := Lib.hid hb1
  have HSZ := Lib.hid hsz
  have B0 := Lib.hid b0
  have B1 := Lib.hid b1
  have B2 := Lib.hid b2
  have y4 := cell_of_box b0 4 rfl
  have HAT := Lib.hid (AtQ.start l (numP n ⟨dd, dq⟩))
  clear ha hN hw1 hb1 hsz b0 b1 b2 HA0
  go_enter Try.func15, Try.ntmps15
  go_wp2_with fail
  rw [HW1.out]
  go_wp2_with fail
  clear y4
  go_loopw [9, 24] (fun vat vi wr => ∃ k a : Nat, k ≤ N ∧ a ≤ N ∧ vi = .int .i64 k ∧ vat = .int .i64 a ∧ Hid (AtQ l (numP n ⟨dd, dq⟩) k a) ∧ Hid (Below w1.heap.size w1 wr)) (fun _ vi _ => N - (intOf vi).toNat)
  case atStart => exact ⟨0, N, Nat.zero_le _, Nat.le_refl _, rfl, rfl, (by have := HAT.out; rw [HN.out] at this; exact this), Below.refl _ _⟩
  case round =>
    obtain ⟨k, a, hk, ha, rfl, rfl, hat, hbw⟩ := hrel
    rename World => wr
    clear HAT
    by_cases hlt : k < N
    · have hkl : k < l.length := by have := HN.out; omega
      obtain ⟨x, hx⟩ : ∃ x, l[k] = x := ⟨_, rfl⟩
      obtain ⟨q1, o1, x1, c0, c1, c2, c3, c4, c5, c6, c7, c8, c9, c10, _⟩ := rd_prt (HA.out.later hbw.out) rfl k hkl hx
      rw [HN.out] at x1
      have hbx := below_alloc wr (.cells #[.int .i64 x.v.k, .int .i64 x.v.n, .string x.v.s, .int .i64 x.d.dev, .int .i64 x.d.seq, .int .i64 x.at_, .int .i64 x.tm, .int .i64 x.aft.dev, .int .i64 x.aft.seq, .int .i64 x.aat, .bool x.gone] 43)
      have bx : Bx (wr.alloc (.cells #[.int .i64 x.v.k, .int .i64 x.v.n, .string x.v.s, .int .i64 x.d.dev, .int .i64 x.d.seq, .int .i64 x.at_, .int .i64 x.tm, .int .i64 x.aft.dev, .int .i64 x.aft.seq, .int .i64 x.aat, .bool x.gone] 43)) wr.heap.size #[.int .i64 x.v.k, .int .i64 x.v.n, .string x.v.s, .int .i64 x.d.dev, .int .i64 x.d.seq, .int .i64 x.at_, .int .i64 x.tm, .int .i64 x.aft.dev, .int .i64 x.aft.seq, .int .i64 x.aat, .bool x.gone] 43 := bx_new rfl
      have e0 := cell_of_box bx 0 rfl
      have e1 := cell_of_box bx 1 rfl
      have e2 := cell_of_box bx 2 rfl
      have e3 := cell_of_box bx 3 rfl
      have e4 := cell_of_box bx 4 rfl
      have e5 := cell_of_box bx 5 rfl
      have e6 := cell_of_box bx 6 rfl
      have e7 := cell_of_box bx 7 rfl
      have e8 := cell_of_box bx 8 rfl
      have e9 := cell_of_box bx 9 rfl
      have e10 := cell_of_box bx 10 rfl
      have hz := cmpQ_zero (numP n ⟨dd, dq⟩) x
      have hneg := cmpQ_neg (numP n ⟨dd, dq⟩) x
      have hah := ahead_any n x.v.n ⟨dd, dq⟩ x.d
      obtain ⟨cr, hcr⟩ : ∃ cr, cmpPl n ⟨dd, dq⟩ x.v.n x.d = cr := ⟨_, rfl⟩
      rw [show cmpQ (numP n ⟨dd, dq⟩) x = cr from hcr] at hz hneg
      rw [hcr] at hah
      have HAH := Lib.hid hah
      have HX := Lib.hid hx
      have HBX := Lib.hid hbx
      have HKL := Lib.hid hkl
      have y4 := cell_of_box (bx_later hbx (bx_later hbw.out B0.out)) 4 rfl
      clear hx hbx bx hcr hah
      cases he : eqQ (numP n ⟨dd, dq⟩) x
      all_goals
        rw [he] at hz
        have HE := Lib.hid he
        clear he
      · cases hl' : ltQ (numP n ⟨dd, dq⟩) x
        all_goals
          rw [hl'] at hneg
          have HL := Lib.hid hl'
          clear hl'
        · have hc0 : ¬ cr < 0 := by simpa using hneg
          have hc1 : 0 ≤ cr := by omega
          have HNX : Hid (AtQ l (numP n ⟨dd, dq⟩) (k + 1) a) := hat.out.skip HKL.out HX.out (by cases h : eqQ x (numP n ⟨dd, dq⟩) with | false => rfl | true => have := eqQ_symm h; rw [HE.out] at this; cases this) HL.out
          go_wp2_with fail
          refine (of_any x _).mono ?_
          rintro e w2 ⟨rfl, hb2⟩
          replace y4 := cell_later hb2 y4
          have HB2 := Lib.hid (below_then hbw.out (below_then HBX.out hb2))
          clear hb2
          go_wp2_with fail
          refine (HAH.out _).mono ?_
          rintro e w3 ⟨rfl, hb3⟩
          replace y4 := cell_later hb3 y4
          have HB3 := Lib.hid (below_then HB2.out hb3)
          clear hb3
          go_wp2_with fail
          go_roundw
          case rel => exact ⟨k + 1, a, by omega, ha, by go_num, rfl, HNX.out, HB3.out⟩
          case measure => simp [intOf]; omega
        · have hc0 : cr < 0 := by simpa using hneg
          have HEX : Hid (eqQ x (numP n ⟨dd, dq⟩) = false) := by
            cases h : eqQ x (numP n ⟨dd, dq⟩) with
            | false => exact Lib.hid rfl
            | true => have := eqQ_symm h; rw [HE.out] at this; cases this
          rcases Nat.lt_or_ge a N with haN | haN
          · have HNX : Hid (AtQ l (numP n ⟨dd, dq⟩) (k + 1) a) := hat.out.past HKL.out HX.out HEX.out (by have := HN.out; omega)
            have ha1 : ((a : Int) == (N : Int)) = false := by simp; omega
            have ha2 : (a == N) = false := by simp; omega
            go_wp2_with fail
            refine (of_any x _).mono ?_
            rintro e w2 ⟨rfl, hb2⟩
            replace y4 := cell_later hb2 y4
            have HB2 := Lib.hid (below_then hbw.out (below_then HBX.out hb2))
            clear hb2
            go_wp2_with fail
            refine (HAH.out _).mono ?_
            rintro e w3 ⟨rfl, hb3⟩
            replace y4 := cell_later hb3 y4
            have HB3 := Lib.hid (below_then HB2.out hb3)
            clear hb3
            go_wp2_with fail
            go_roundw
            case rel => exact ⟨k + 1, a, by omega, ha, by go_num, rfl, HNX.out, HB3.out⟩
            case measure => simp [intOf]; omega
          · obtain rfl : a = N := by omega
            have HNX : Hid (AtQ l (numP n ⟨dd, dq⟩) (k + 1) k) := (show AtQ l (numP n ⟨dd, dq⟩) k l.length by have := hat.out; rwa [← HN.out] at this).found HKL.out HX.out HEX.out HL.out
            have ha1 : ((a : Int) == (a : Int)) = true := by simp
            have ha2 : (a == a) = true := by simp
            go_wp2_with fail
            refine (of_any x _).mono ?_
            rintro e w2 ⟨rfl, hb2⟩
            replace y4 := cell_later hb2 y4
            have HB2 := Lib.hid (below_then hbw.out (below_then HBX.out hb2))
            clear hb2
            go_wp2_with fail
            refine (HAH.out _).mono ?_
            rintro e w3 ⟨rfl, hb3⟩
            replace y4 := cell_later hb3 y4
            have HB3 := Lib.hid (below_then HB2.out hb3)
            clear hb3
            go_wp2_with fail
            go_roundw
            case rel => exact ⟨k + 1, k, by omega, hk, by go_num, rfl, HNX.out, HB3.out⟩
            case measure => simp [intOf]; omega
      · have HRES := Lib.hid (addQ_there HKL.out HX.out (eqQ_symm HE.out))
        go_wp2_with fail
        refine (of_any x _).mono ?_
        rintro e w2 ⟨rfl, hb2⟩
        replace y4 := cell_later hb2 y4
        have HB2 := Lib.hid (below_then hbw.out (below_then HBX.out hb2))
        clear hb2
        go_wp2_with fail
        refine (HAH.out _).mono ?_
        rintro e w3 ⟨rfl, hb3⟩
        replace y4 := cell_later hb3 y4
        have HB3 := Lib.hid (below_then HB2.out hb3)
        have hcl := cloneP_any (.slice ao l.length cc) l w3 (HA.out.later HB3.out) (by have := HN.out; omega)
        rw [HN.out] at hcl
        have HCL := Lib.hid hcl
        clear hb3 hcl
        go_wp2_with fail
        refine HCL.out.mono ?_
        rintro e w4 ⟨v3, rfl, hown4, hb4⟩
        obtain ⟨a3, c3, rfl, _⟩ := Rd.of_own hown4
        obtain ⟨M, hM⟩ : ∃ M, l.length = M := ⟨_, rfl⟩
        have hB4 := below_then HB3.out hb4
        have r0 := bx_later hB4 B0.out
        have r2 := bx_later hB4 B2.out
        have e0 := cell_of_box r0 0 rfl
        have z0 := cell_of_box r2 0 rfl
        have fe0 := frozen_of_box r0 0
        have fz0 := frozen_of_box r2 0
        have e1 := cell_of_box r0 1 rfl
        have z1 := cell_of_box r2 1 rfl
        have fe1 := frozen_of_box r0 1
        have fz1 := frozen_of_box r2 1
        have e2 := cell_of_box r0 2 rfl
        have z2 := cell_of_box r2 2 rfl
        have fe2 := frozen_of_box r0 2
        have fz2 := frozen_of_box r2 2
        have e3 := cell_of_box r0 3 rfl
        have z3 := cell_of_box r2 3 rfl
        have fe3 := frozen_of_box r0 3
        have fz3 := frozen_of_box r2 3
        have e4 := cell_of_box r0 4 rfl
        have z4 := cell_of_box r2 4 rfl
        have fe4 := frozen_of_box r0 4
        have fz4 := frozen_of_box r2 4
        have HO5 := Lib.hid (own_monoP hown4 (by have := HB3.out.size; have := HBW1.out.size; exact Nat.le_trans HBW1.out.size HB3.out.size) : OwnP w4 w.heap.size (.slice a3 l.length c3) l)
        have HFAR := Lib.hid (fun kk (hk : Value.ownBlock (.slice a3 l.length c3) = some kk) => Nat.le_trans HB3.out.size (hown4.lt kk hk).1)
        have HBEL := Lib.hid (below_then HBW1.out hB4)
        unfold OwnP at HO5
        rw [HN.out] at HO5 HFAR ⊢
        clear hown4 hb4 hB4 r0 r2 y4 hM HCL
        go_wp2_with fail
        refine bodyPost_ret (v := .agg #[.int .i64 kd, .int .i64 ck, .int .i64 cn, .string cs, .slice a3 N c3]) (by simp [results, Try.results15, go_sem, z0, z1, z2, z3, z4]) rfl ⟨.slice a3 N c3, rfl, ?_, ?_⟩
        · unfold OwnP
          rw [HRES.out, HN.out]
          refine own_but (S := fun kk => kk = w.heap.size ∨ kk = w.heap.size + 2) HO5.out ?_ fun kk hk hs => by have := HFAR.out kk hk; have := HSZ.out; rcases hs with rfl | rfl <;> omega
          exact ((((((But.refl _ w4).set (.inl rfl) _).set (.inr rfl) _).set (.inr rfl) _).set (.inr rfl) _).set (.inr rfl) _).set (.inr rfl) _
        · repeat' (first | with_reducible apply Below.setCell | exact HBEL.out)
          all_goals (simp <;> omega)
    · obtain rfl : k = N := by omega
      have hat' := hat.out
      rw [← HN.out] at hat'
      obtain ⟨hal, hadd⟩ := hat'.done
      have HADD := Lib.hid hadd
      have HALN : Hid (a ≤ l.length) := hal
      have r0 := bx_later hbw.out B0.out
      have r1 := bx_later hbw.out B1.out
      have y4 := cell_of_box r0 4 rfl
      have d0 := cell_of_box r1 0 rfl
      have d1 := cell_of_box r1 1 rfl
      have HRD := Lib.hid (HA.out.later hbw.out)
      clear hat hat' hal hadd r0 r1
      go_wp2_with fail
      refine wp_region_flow (by kernel_rfl) 9 [(2, ⟨fun v => ∃ a c, v = .slice a k c, fun v lo hi w' => ∃ a c, v = .slice a k c ∧ w'.ownsRow wr.heap.size 43 11 (.slice a k c) k (prtCs l) ∧ w'.ownsRow lo 43 11 (.slice a k c) k (prtCs l) ∧ ∀ b, Value.ownBlock (.slice a k c) = some b → b < hi⟩), (8, ⟨fun v => ∃ g : Nat, v = .slice (some ⟨g, 0, none⟩) 1 1, fun v lo hi w' => ∃ g : Nat, v = .slice (some ⟨g, 0, none⟩) 1 1 ∧ w'.heap[g]? = some (.cells (enP (numP n ⟨dd, dq⟩)).toArray 43 (0, 0)) ∧ lo ≤ g ∧ g < hi⟩)] (by kernel_rfl) ?_ ?_ ?_
      · intro x hx
        simp only [List.mem_cons, List.not_mem_nil, or_false] at hx
        rcases hx with rfl | rfl
        · exact ⟨_, none, 0, rfl⟩
        · exact ⟨_, 0, rfl⟩
      · intro x hx v lo hi w w' h hb
        simp only [List.mem_cons, List.not_mem_nil, or_false] at hx
        rcases hx with rfl | rfl
        · obtain ⟨a, c, rfl, h1, h2, h3⟩ := h
          exact ⟨a, c, rfl, own_later h1 hb, own_later h2 hb, h3⟩
        · obtain ⟨g, rfl, h1, h2, h3⟩ := h
          exact ⟨g, rfl, bx_later hb h1, h2, h3⟩
      · intro lo hi
        have ky4 := cell_regrown y4
        have kd0 := cell_regrown d0
        have kd1 := cell_regrown d1
        refine flowW_plain rfl ?_
        go_big_quiet_step (fail)
        refine wpQuiet_nil ?_
        refine flowW_plain rfl ?_
        go_big_quiet_step (fail)
        refine wpQuiet_nil ?_
        refine flowW_call rfl rfl ?_ ?_
        · intro W hW hF K hK
          clear ky4 kd0 kd1
          go_wp2_with fail
          have hcl := cloneP_any (.slice ao l.length cc) l W (HRD.out.later hW) (by have := HN.out; omega)
          rw [HN.out] at hcl
          refine hcl.mono ?_
          rintro e wq ⟨v, rfl, ho, hbq⟩
          obtain ⟨a, c, rfl, _⟩ := Rd.of_own ho
          unfold OwnP at ho
          rw [HN.out] at ho ⊢
          go_wp2_with fail
          exact hK _ _ ⟨a, c, rfl⟩ ⟨a, c, rfl, own_monoP ho hW.size, ho, fun b hb => (ho.lt b hb).2⟩ hbq
        rintro v ⟨a2, c2, rfl⟩ K hK
        go_simp
        refine hK _ ?_
        clear hK K
        refine flowW_plain rfl ?_
        go_big_quiet_step (fail)
        refine wpQuiet_nil ?_
        refine flowW_plain rfl ?_
        go_big_quiet_step (fail)
        refine wpQuiet_nil ?_
        refine flowW_plain rfl ?_
        go_big_quiet_step (fail)
        refine wpQuiet_nil ?_
        refine flowW_plain rfl ?_
        go_big_quiet_step (fail)
        refine wpQuiet_nil ?_
        refine flowW_plain rfl ?_
        go_big_quiet_step (fail)
        refine wpQuiet_nil ?_
        refine flowW_call rfl rfl ?_ ?_
        · intro W hW hF K hK
          clear ky4 kd0 kd1
          go_wp2_with fail
          exact hK _ _ ⟨_, rfl⟩ ⟨_, rfl, bx_new rfl, Nat.le_refl _, by simp⟩ (below_alloc _ _)
        rintro v ⟨g8, rfl⟩ K hK
        go_simp
        refine hK _ ?_
        clear hK K
        refine flowW_end fun wz hwz hF hD => ?_
        clear ky4 kd0 kd1
        simp only [List.drop_succ_cons, List.drop_zero]
        obtain ⟨_, _, he, ho1, ho2, ho3⟩ := hF 2
        cases he
        obtain ⟨_, he, hg, hg1, hg2⟩ := hF 8
        cases he
        have hdj : hi 2 ≤ lo 8 ∨ hi 8 ≤ lo 2 := hD 2 8 (by decide) rfl rfl
        replace hg1 : lo 8 ≤ g8 := hg1
        replace hg2 : g8 < hi 8 := hg2
        have hins := insertP_any wr.heap.size (.slice a2 k c2) k a (prtCs l) (enP (numP n ⟨dd, dq⟩)) wz g8 ho1 hg (fun e => by have h1 : g8 < hi 2 := ho3 g8 e; have h2 : lo 2 ≤ g8 := (ho2.lt g8 e).1; omega) rfl
          (by intro u hu; simp only [enP, numP, bareP, List.mem_cons, List.not_mem_nil, or_false] at hu; rcases hu with rfl | rfl | rfl | rfl | rfl | rfl | rfl | rfl | rfl | rfl | rfl <;> rfl) (oneP l) (by omega) (by omega) hwz.size
        have HINS := Lib.hid hins
        have HWZ := Lib.hid (below_then hbw.out hwz)
        have HO1 := Lib.hid ho1
        have HBW := Lib.hid hbw.out
        clear hins hF hD hdj hg1 hg2 hg ho1 ho2 ho3 hbw
        go_wp2_with fail
        refine HINS.out.mono ?_
        rintro e w4 ⟨v3, rfl, hown4, hgrow4⟩
        obtain ⟨a3, c3, rfl, _⟩ := Rd.of_own hown4
        have hne4 : ∀ kk, kk < w1.heap.size → Value.ownBlock (.slice a2 k c2) ≠ some kk := fun kk hk e => by have := (HO1.out.lt kk e).1; have := HBW.out.size; omega
        have r0 := bx_grown hgrow4 (bx_later HWZ.out B0.out) (hne4 _ (by have := HSZ.out; omega))
        have r2 := bx_grown hgrow4 (bx_later HWZ.out B2.out) (hne4 _ (by have := HSZ.out; omega))
        have hput : prtCs (addQ l n ⟨dd, dq⟩) = (prtCs l).take (a * 11) ++ enP (numP n ⟨dd, dq⟩) ++ (prtCs l).drop (a * 11) := by
          rw [HADD.out, prtCs_take, prtCs_drop]
          simp [prtCs]
        have hlen : (addQ l n ⟨dd, dq⟩).length = k + 1 := by
          rw [HADD.out]
          have h1 := congrArg List.length (List.take_append_drop a l)
          rw [List.length_append] at h1
          rw [List.length_append, List.length_cons]
          have := HN.out
          omega
        have hown5 : w4.ownsRow w.heap.size 43 11 (.slice a3 (k + 1) c3) (k + 1) (prtCs (addQ l n ⟨dd, dq⟩)) := by
          rw [hput]; exact own_monoP hown4 (Nat.le_trans HBW1.out.size HBW.out.size)
        have hfar : ∀ kk, Value.ownBlock (.slice a3 (k + 1) c3) = some kk → w1.heap.size ≤ kk := fun kk hk => Nat.le_trans HBW.out.size (hown4.lt kk hk).1
        have hbel : Below w.heap.size w w4 := (below_then HBW1.out HWZ.out).grown hgrow4 (below_then HBW1.out HWZ.out).size (fun kk hk => by have := (HO1.out.lt kk hk).1; have := HBW1.out.size; have := HBW.out.size; omega)
        have e0 := cell_of_box r0 0 rfl
        have z0 := cell_of_box r2 0 rfl
        have fe0 := frozen_of_box r0 0
        have fz0 := frozen_of_box r2 0
        have e1 := cell_of_box r0 1 rfl
        have z1 := cell_of_box r2 1 rfl
        have fe1 := frozen_of_box r0 1
        have fz1 := frozen_of_box r2 1
        have e2 := cell_of_box r0 2 rfl
        have z2 := cell_of_box r2 2 rfl
        have fe2 := frozen_of_box r0 2
        have fz2 := frozen_of_box r2 2
        have e3 := cell_of_box r0 3 rfl
        have z3 := cell_of_box r2 3 rfl
        have fe3 := frozen_of_box r0 3
        have fz3 := frozen_of_box r2 3
        have e4 := cell_of_box r0 4 rfl
        have z4 := cell_of_box r2 4 rfl
        have fe4 := frozen_of_box r0 4
        have fz4 := frozen_of_box r2 4
        have HO5 := Lib.hid hown5
        have HFAR := Lib.hid hfar
        have HBEL := Lib.hid hbel
        have HLEN := Lib.hid hlen
        clear hown4 hgrow4 hne4 r0 r2 hput hlen hown5 hfar hbel HINS hwz
        go_wp2_with fail
        refine bodyPost_ret (v := .agg #[.int .i64 kd, .int .i64 ck, .int .i64 cn, .string cs, .slice a3 (k + 1) c3]) (by simp [results, Try.results15, go_sem, z0, z1, z2, z3, z4]) rfl ⟨.slice a3 (k + 1) c3, rfl, ?_, ?_⟩
        · unfold OwnP
          rw [HLEN.out]
          refine own_but (S := fun kk => kk = w.heap.size ∨ kk = w.heap.size + 2) HO5.out ?_ fun kk hk hs => by have := HFAR.out kk hk; have := HSZ.out; rcases hs with rfl | rfl <;> omega
          exact ((((((But.refl _ w4).set (.inl rfl) _).set (.inr rfl) _).set (.inr rfl) _).set (.inr rfl) _).set (.inr rfl) _).set (.inr rfl) _
        · repeat' (first | with_reducible apply Below.setCell | exact HBEL.out)
          all_goals (simp <;> omega)
end Go.Proofs.Ytnpciogpegmejaa
