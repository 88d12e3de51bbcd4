/-
  Layer 20 (past): texts joined by tools/join.py: XYN, XQB, XQC, XQD, XQF.
-/
import Derived.Test.YtnolbabpkhdpmaaGreatN2
import Derived.Test.YtnolbabpkhdpmaaGreatN1
import Derived.Test.YtnolbabpkhdpmaaGreatTN
import Derived.Test.YtnolbabpkhdpmaaGreatBB
/- Layer 20 (past): Known. (printed by tools/gen_yn.py) -/
namespace Go.Proofs.YtnolbabpkhdpmaaGreat
open Go.RowKit Go.Sort Go.Shelf Go.BigFrame
attribute [local go_sem] Oper.semAt_some
attribute [local irreducible] FlowW

/-- How many of a device's are known. -/
def seqF (n : Int) (x : TxS) : Int := if inQ3 x.seq 1 1048576 then max n x.seq else n
def knownAt (line : List Int) (l : List TxS) (dev : Int) : Int := (devT dev l).foldl seqF (ofV line dev)
def knownL (line : List Int) (l : List TxS) (k : Nat) : List Int := (List.range k).map fun (j : Nat) => knownAt line l ((j : Int) + 1)
def knownT (line : List Int) (l : List TxS) : List Int := trimL (knownL line l 64)
theorem knownL_succ (line : List Int) (l : List TxS) (k : Nat) : knownL line l (k + 1) = knownL line l k ++ [knownAt line l ((k : Int) + 1)] := by unfold knownL; rw [List.range_succ, List.map_append]; rfl
theorem knownL_len (line : List Int) (l : List TxS) (k : Nat) : (knownL line l k).length = k := by simp [knownL]
theorem foldl_snoc {α β : Type} (f : β → α → β) (s : β) (l : List α) (x : α) : (l ++ [x]).foldl f s = f (l.foldl f s) x := by rw [List.foldl_append]; rfl
theorem run_make_vec2 (n : Nat) (hn : n ≤ 1000000) : ∃ cs : Array Value, cs.toList = (List.replicate n (0 : Int)).map ic ∧ ∀ W, (Instr.makeSlice 23 (.int .i64 (n : Int)) (.int .i64 (n : Int))).run Tryz.prog W = .ok (.slice (some ⟨W.heap.size, 0, none⟩) n n) (W.alloc (.cells cs 3)) := by
  obtain ⟨i, hi, h0, h1, h2⟩ := info_parts (show (Tryz.prog.info? 3).map (fun i => (i.zero, i.size, i.bytes)) = some (some (.int .i64 0), 1, 8) by kernel_rfl)
  refine ⟨madeCells (Value.int .i64 0).cells (n * i.size), ?_, fun W => ?_⟩
  · rw [h1, Nat.mul_one]
    have : (Value.int .i64 0).cells = #[Value.int .i64 0] := rfl
    rw [this, toList_madeCells_one, List.map_replicate]
  · have := run_make (P := Tryz.prog) W 23 3 i _ (by kernel_rfl) hi h0 .i64 .i64 n n (by omega) (Int.le_refl _) (by rw [h2]; omega) (by omega)
    simpa using this

theorem ofV_f {a : Option Addr} {m c : Nat} {l : List Int} {d f : Int} {w : World} (hm : l.length = m) (hf : ofV l d = f) (h : Rd w (.slice a l.length c) l.length (l.map ic)) : Calls Tryz.prog 33 #[.slice a m c, .int .i64 d] w fun e w' => e = .returned (.int .i64 f) ∧ w = w' := by
  subst hm hf
  exact ofV_any _ l d w h
def en1V (x : Int) : List Value := [.int .i64 x]
theorem leaves_marks {F : Fence} {n n3 : Nat} {P : Program} {fn : Func} {tmps : Array Value} {R : Ending → World → Prop} {Φ : World → Prop}
    (hΦ : ∀ (W : World) (D : Nat), n3 ≤ D → W.heap[D]? = some (.deferred (some [])) → Φ W → Φ (W.putObj D (.deferred none)))
    (hend : ∀ W, Φ W → LeavesInM F n P fn tmps R [] .returning W) :
    ∀ (Ds : List Nat) (w : World), (∀ D ∈ Ds, n3 ≤ D ∧ w.heap[D]? = some (.deferred (some []))) → Ds.Nodup → Φ w → LeavesInM F n P fn tmps R (Ds.map fun D => { target := .collected D, args := #[] }) .returning w
  | [], w, _, _, h => hend w h
  | D :: Ds, w, hD, hnd, h => by
    have h1 := hD D List.mem_cons_self
    refine ⟨by simp, .inl ⟨D, w.putObj D (.deferred none), rfl, run_takeDeferred h1.2, ?_⟩⟩
    refine leaves_marks hΦ hend Ds _ (fun E hE => ?_) (List.nodup_cons.1 hnd).2 (hΦ w D h1.1 h1.2 h)
    have hne : E ≠ D := fun e => (List.nodup_cons.1 hnd).1 (e ▸ hE)
    have h2 := hD E (List.mem_cons_of_mem _ hE)
    exact ⟨h2.1, (World.putObj_heap_other hne).trans h2.2⟩
theorem wpIn_region_flowQ {P : Program} {l : List Oper} {l' n : Nat} {Q : Exit → Act → World → Prop} {id : Nat} {a : Act} {w : World} (hm : P.follows .mixedOrders = true) (hdef : l.all (fun o => match o.op with | .defer _ => false | _ => true) = true) (m : Nat) (sp : List (Nat × FlowSpec)) (hF : flowB l m (fun k => (sp.lookup k).isSome) = true)
    (hin : ∀ x ∈ sp, ∃ v, x.2.S v) (hst : ∀ x ∈ sp, ∀ v a b w w', x.2.R v a b w → Ext w w' → x.2.R v a b w')
    (H : ∀ lo hi, FlowW P l w sp lo hi (fun a' w' => wpList P l.toArray (onlyN (Q .normal)) (l.drop m) a' w') (l.take m) 0 a (fun _ _ => True)) : (Code.region id l.toArray true).wpIn (Fence.wide.inRound l') n P Q a w :=
  wpIn_mono (wpIn_region_flow (K := Q .normal) (Q := fun _ _ _ => False) hm hdef m sp hF hin hst H) fun e a w hq => by
    cases e with
    | normal => exact hq
    | _ => exact hq.elim
theorem within_bk {n a b : Int} {r : Bool} (h : inQ3 n a b = r) (w : World) : Calls Tryz.prog 24 #[.int .i64 n, .int .i64 a, .int .i64 b] w fun e w' => e = .returned (.bool r) ∧ w = w' := by
  subst h
  exact within_any n a b w
theorem keeps_below2 {W V : World} (h : Below W.heap.size W V) : KeepsOthers W V :=
  ⟨h.size, fun k _ hk _ => (h.block k (Array.getElem?_eq_some_iff.1 hk).1).trans hk⟩
theorem seqF_in {n : Int} {x : TxS} (h : inQ3 x.seq 1 1048576 = true) : seqF n x = max n x.seq := if_pos h
theorem seqF_out {n : Int} {x : TxS} (h : inQ3 x.seq 1 1048576 = false) : seqF n x = n := if_neg (by rw [h]; simp)
def KnI (wB : World) (n0 g6 q2 : Nat) (A Z : List Int) (f kk dev : Int) (Ds : List Nat) (pre : List TxS) (W : World) : Prop :=
  SB enI 1 wB n0 0 (A ++ (pre.foldl seqF f) :: Z) W ∧ Bx W (n0 + 1) #[.slice (some ⟨n0, 0, none⟩) 64 64] 23 ∧ Bx W g6 #[.int .i64 kk] 3 ∧ W.heap[q2]? = some (.cells #[.int .i64 dev] 3 (0, 0)) ∧ ∀ D ∈ Ds, W.heap[D]? = some (.deferred (some []))
theorem KnI.own {wB : World} {n0 g6 q2 : Nat} {A Z : List Int} {f kk dev : Int} {Ds : List Nat} (B : Nat) (hB : wB.heap.size ≤ B) (hD : ∀ D ∈ Ds, D < B) : OwnFrom B (KnI wB n0 g6 q2 A Z f kk dev Ds) := by
  intro s W W' row hs hg hr
  obtain ⟨h1, h2, h3, h4, h5⟩ := hs
  have hr' := fun r e => (hr r e).2
  refine ⟨?_, bx_kept h2 hg hr', bx_kept h3 hg hr', bx_kept h4 hg hr', fun D hm => ?_⟩
  · have hle := h1.le
    unfold SB at h1 ⊢
    have hsz : (putRowK enI 1 wB n0 0 (A ++ (s.foldl seqF f) :: Z).toArray).heap.size = wB.heap.size := size_putRowK' _
    exact Below.grown h1 hg hle (fun k e => Nat.le_trans hB (hr k e).1)
  · have hlt := (Array.getElem?_eq_some_iff.1 (h5 D hm)).1
    exact (hg.block D hlt (fun e => by have := (hr D e.symm).1; have := hD D hm; omega)).trans (h5 D hm)
set_option maxRecDepth 100000 in
set_option maxHeartbeats 8000000 in
theorem known_any {vl vv : Value} {l : List TxS} {line : List Int} (w : World) (hv : Rd w vv line.length (line.map ic)) (hl : LRd w vl l) (hn : l.length ≤ 1000000) :
    Calls Tryz.prog 11 #[vv, vl] w (OwnPostV w (knownT line l)) := by
  obtain ⟨la, lc, rfl, hnc, hcm, -, -⟩ := id hl.1
  obtain ⟨ga, gc, rfl, hgc, hgm, -, -⟩ := id hv
  unfold maxLen at hcm hgm
  obtain ⟨cs, hcs, hmk⟩ := run_make_vec2 64 (by decide)
  obtain ⟨n, hln⟩ : ∃ n, l.length = n := ⟨_, rfl⟩
  obtain ⟨m, hgl⟩ : ∃ m, line.length = m := ⟨_, rfl⟩
  have HL := Lib.hid hl
  have HV := Lib.hid hv
  have HLN := Lib.hid hln
  have HGL := Lib.hid hgl
  have HN := Lib.hid hn
  rw [hln] at hnc ⊢
  rw [hgl] at hgc ⊢
  obtain ⟨n0, hn0⟩ : ∃ n0, w.heap.size = n0 := ⟨_, rfl⟩
  have HN0 := Lib.hid hn0
  have HCS := Lib.hid hcs
  clear hl hv hln hgl hn hcs
  refine (callsIn_wide (n := 6)).1 ?_
  refine callsIn_of_wp_marks Tryz.func11 rfl trivial ?_ rfl
  simp only [Tryz.ntmps11, List.size_toArray, List.length_cons, List.length_nil, Nat.reduceAdd, Nat.reduceSub, Array.replicate_succ, Array.replicate_zero, List.push_toArray, List.append_toArray, List.nil_append, List.cons_append]
  have hmk' : ∀ W, (Instr.makeSlice 23 (.int .i64 64) (.int .i64 64)).run Tryz.prog W = .ok (.slice (some ⟨W.heap.size, 0, none⟩) 64 64) (W.alloc (.cells cs 3)) := hmk
  obtain ⟨wB, hwB⟩ : ∃ wB, w.alloc (.cells cs 3) = wB := ⟨_, rfl⟩
  obtain ⟨w0, hw0⟩ : ∃ w0, wB.alloc (.cells #[.slice (some ⟨n0, 0, none⟩) 64 64] 23) = w0 := ⟨_, rfl⟩
  have hbB : Below w.heap.size w wB := by rw [← hwB]; exact below_alloc _ _
  have hszB : wB.heap.size = n0 + 1 := by rw [← hwB]; simp [HN0.out]
  have hb0 : Below wB.heap.size wB w0 := by rw [← hw0]; exact below_alloc _ _
  have hR : Rw enI 1 wB n0 0 64 (List.replicate 64 (0 : Int)) := by
    have hh := holds_new w (fun x : Int => .int .i64 x) cs 3 (List.replicate 64 (0 : Int)) HCS.out
    rw [hwB, HN0.out] at hh
    exact ⟨fun _ => rfl, fun x v hv => by rw [List.mem_singleton.1 hv]; rfl, hh, by omega, by simp⟩
  have hX : Bx w0 (n0 + 1) #[.slice (some ⟨n0, 0, none⟩) 64 64] 23 := by rw [← hw0]; exact bx_new hszB.symm
  have hS : SB enI 1 wB n0 0 (knownL line l 0 ++ List.replicate (64 - 0) 0) w0 := by
    have := hR.start.later hb0
    simpa [knownL] using this
  have HWB := Lib.hid hwB
  have HW0 := Lib.hid hw0
  have HBB := Lib.hid hbB
  have HSZB := Lib.hid hszB
  have HR := Lib.hid hR
  have HX := Lib.hid hX
  have HS := Lib.hid hS
  have hsz0 : w0.heap.size = n0 + 2 := by rw [← HW0.out]; simp [HSZB.out]
  have HSZ0 := Lib.hid hsz0
  clear hwB hw0 hbB hszB hb0 hR hX hS hsz0
  gi_wp2_with fail
  rw [HWB.out, HW0.out]
  refine wpIn_loop (fun a' wr => ∃ (k : Nat) (Ds : List Nat) (u6 u7 u12 u13 u14 u15 u16 u17 u18 u19 u20 u21 u22 u23 u24 u25 u26 u27 u28 u29 u30 u31 u32 u33 u34 u35 u36 u37 u38 u39 : Value), k ≤ 64 ∧ a' = { tmps := #[.slice ga m gc, .slice la n lc, undef, undef, .slice none 0 0, .pointer (some ⟨n0 + 1, 0, none⟩), u6, u7, .slice (some ⟨n0, 0, none⟩) 64 64, .slice (some ⟨n0, 0, none⟩) 64 64, .int .i64 64, .int .i64 (k : Int), u12, u13, u14, u15, u16, u17, u18, u19, u20, u21, u22, u23, u24, u25, u26, u27, u28, u29, u30, u31, u32, u33, u34, u35, u36, u37, u38, u39, undef, undef], defers := Ds.map fun D => { target := .collected D, args := #[] } } ∧ Hid (SB enI 1 wB n0 0 (knownL line l k ++ List.replicate (64 - k) 0) wr) ∧ Hid (Bx wr (n0 + 1) #[.slice (some ⟨n0, 0, none⟩) 64 64] 23) ∧ Hid (∀ D ∈ Ds, n0 + 2 ≤ D ∧ D < wr.heap.size ∧ wr.heap[D]? = some (.deferred (some []))) ∧ Hid Ds.Nodup)
    (fun a' _ => 64 - (intOf (a'.tmps.getD 11 undef)).toNat) ?_ ?_
  · exact ⟨0, [], _, _, _, _, _, _, _, _, _, _, _, _, _, _, _, _, _, _, _, _, _, _, _, _, _, _, _, _, _, _, by omega, rfl, HS.out, HX.out, (fun D hD => nomatch hD), List.nodup_nil⟩
  rintro a' wr ⟨k, Ds, u6, u7, u12, u13, u14, u15, u16, u17, u18, u19, u20, u21, u22, u23, u24, u25, u26, u27, u28, u29, u30, u31, u32, u33, u34, u35, u36, u37, u38, u39, hk, rfl, HS1, HX1, HD1, HND⟩
  have p0 := cell_of_box HX1.out 0 rfl
  by_cases hlt : k < 64
  case neg =>
    have hk64 : k = 64 := by omega
    subst hk64
    have hrd : Rd wr (.slice (some ⟨n0, 0, none⟩) 64 64) (knownL line l 64).length ((knownL line l 64).map ic) := by
      have hh := HS1.out.rd1 HR.out (by simp [knownL_len]) (fun x => .int .i64 x) (fun x => rfl) (cap := 64) (Nat.le_refl _) (by decide)
      rw [show 64 - 64 = 0 from rfl, List.replicate_zero, List.append_nil] at hh
      rw [knownL_len]
      exact hh
    have HT := Lib.hid (vTrim_any _ (knownL line l 64) wr hrd (by rw [knownL_len]; decide))
    have HWR : Hid (Below w.heap.size w wr) := HS1.out.old HBB.out (by have := HN0.out; omega)
    clear hrd hlt hk
    gi_wp2_with fail
    refine ⟨trivial, ?_⟩
    refine (callsIn_wide.2 HT.out).mono ?_
    rintro e w9 ⟨v9, rfl, ho9, hb9⟩
    have HO9 := Lib.hid ho9
    have HB9 := Lib.hid hb9
    clear ho9 hb9 p0
    gi_wp2_with fail
    refine leaves_marks (n3 := n0 + 2) (Φ := fun W => OwnV W w.heap.size v9 (knownT line l) ∧ Below w.heap.size w W) ?_ ?_ Ds _ ?_ HND.out ?_
    · rintro W D hD hW ⟨h1, h2⟩
      exact ⟨ownsRow_putObj h1 (.deferred none) hW rfl, h2.trans (belowK_b (w := w) (Nat.le_refl _) W D _ _ (by have := HN0.out; omega) hW rfl rfl)⟩
    · rintro W ⟨h1, h2⟩
      refine ⟨_, results_tmp rfl _ _ _, ?_⟩
      exact ⟨v9, rfl, h1, h2⟩
    · intro D hm
      obtain ⟨a1, a2, a3⟩ := HD1.out D hm
      exact ⟨a1, (HB9.out.block D a2).trans a3⟩
    · exact ⟨own_monoT HO9.out (by have := HWR.out.size; omega), HWR.out.trans (HB9.out.mono HWR.out.size)⟩
  have hk2 : (k : Int) < 64 := by omega
  have hsp : knownL line l k ++ List.replicate (64 - k) (0 : Int) = knownL line l k ++ (0 : Int) :: List.replicate (63 - k) 0 := by rw [show 64 - k = (63 - k) + 1 by omega, List.replicate_succ]
  have hs1 := HS1.out
  rw [hsp] at hs1
  have hln : (knownL line l k ++ (0 : Int) :: List.replicate (63 - k) 0).length = 64 := by rw [List.length_append, List.length_cons, List.length_replicate, knownL_len]; omega
  have HS2 := Lib.hid hs1
  have HLNN := Lib.hid hln
  have HWR : Hid (Below w.heap.size w wr) := HS2.out.old HBB.out (by have := HN0.out; omega)
  obtain ⟨f, hf⟩ : ∃ f, ofV line ((k : Int) + 1) = f := ⟨_, rfl⟩
  have HF0 := Lib.hid hf
  obtain ⟨w6, hw6⟩ : ∃ w6, wr.alloc (.cells #[.int .i64 k] 3) = w6 := ⟨_, rfl⟩
  have hbw6 : Below wr.heap.size wr w6 := by rw [← hw6]; exact below_alloc _ _
  have bw6 : Bx w6 wr.heap.size #[.int .i64 k] 3 := by rw [← hw6]; exact bx_new rfl
  have Hw6 := Lib.hid hw6
  have HQ6 := Lib.hid bw6
  have HB6 := Lib.hid hbw6
  clear hsp hs1 hln hf hw6 hbw6 bw6
  gi_wp2_with fail
  rw [Hw6.out]
  have q0 := cell_of_box HQ6.out 0 rfl
  replace p0 := cell_of_box (bx_later HB6.out HX1.out) 0 rfl
  obtain ⟨g6, hg6⟩ : ∃ g6, wr.heap.size = g6 := ⟨_, rfl⟩
  rw [hg6] at q0 ⊢
  have HG6 := Lib.hid hg6
  clear hg6
  refine wpIn_region_flow0 (by kernel_rfl) (by kernel_rfl) 7 [(5, ⟨fun v => v = .int .i64 f, fun _ _ _ _ => True⟩)] (by kernel_rfl) ?_ ?_ ?_
  · intro x hx
    simp only [List.mem_cons, List.not_mem_nil, or_false] at hx
    subst hx
    exact ⟨_, rfl⟩
  · intro x hx v lo hi w w' h hb
    simp only [List.mem_cons, List.not_mem_nil, or_false] at hx
    subst hx
    exact trivial
  · intro lo hi
    have kp0 := cell_regrown p0
    have kq0 := cell_regrown q0
    refine flowW_plain rfl ?_
    go_big_quiet_step (fail)
    refine wpQuiet_nil ?_
    refine flowW_plain rfl ?_
    go_big_quiet_step (fail)
    refine wpQuiet_nil ?_
    refine flowW_plain rfl ?_
    go_big_quiet_step (fail)
    refine wpQuiet_nil ?_
    refine flowW_plain rfl ?_
    go_big_quiet_step (fail)
    refine wpQuiet_nil ?_
    refine flowW_plain rfl ?_
    go_big_quiet_step (fail)
    refine wpQuiet_nil ?_
    refine flowW_call rfl rfl ?_ ?_
    · intro W hW hF K hK
      clear kp0 kq0
      go_wp2_with fail
      refine (ofV_f HGL.out HF0.out (HV.out.later (below_then HWR.out (below_then HB6.out hW)))).mono ?_
      rintro e wq ⟨rfl, rfl⟩
      go_wp2_with fail
      exact hK _ _ rfl trivial (Below.refl _ _)
    rintro v rfl K hK
    go_simp
    refine hK _ ?_
    clear hK K
    refine flowW_plain rfl ?_
    go_big_quiet_step (fail)
    refine wpQuiet_nil ?_
    refine flowW_end fun w5 hw5 hF hD => ?_
    clear kp0 kq0
    simp only [List.drop_succ_cons, List.drop_zero]
    have HS5 := Lib.hid (HS2.out.later (below_then HB6.out hw5))
    have HX5 := Lib.hid (bx_later (below_then HB6.out hw5) HX1.out)
    have HQ5 := Lib.hid (bx_later hw5 HQ6.out)
    have HW5 := Lib.hid (below_then HB6.out hw5)
    obtain ⟨c0, f0⟩ := HS5.out.cell1 HR.out HLNN.out (i := k) (knownL_len _ _ _).symm rfl
    have hst := HS5.out.stored1 HR.out (i := k) (y := f) (knownL_len _ _ _).symm rfl
    rw [Nat.zero_add] at c0 f0 hst
    have HST := Lib.hid hst
    clear hw5 hF hD p0 q0 hst
    go_wp2_with fail
    simp only [onlyN]
    obtain ⟨w7, hw7⟩ : ∃ w7, w5.setCell ⟨n0, k, none⟩ (.int .i64 f) = w7 := ⟨_, rfl⟩
    rw [hw7] at HST ⊢
    have HX7 : Hid (Bx w7 (n0 + 1) #[.slice (some ⟨n0, 0, none⟩) 64 64] 23) := by rw [← hw7]; exact bx_seto HX5.out (by omega) _ _
    have HQ7 : Hid (Bx w7 g6 #[.int .i64 (k : Int)] 3) := by rw [← hw7, ← HG6.out]; exact bx_seto HQ5.out (by have := HX1.out; have := (Array.getElem?_eq_some_iff.1 this).1; omega) _ _
    have HK7 : Hid (KeepsOthers w5 w7) := by rw [← hw7]; exact KeepsOthers.setCell _ _ _
    have HZ7 : Hid (w7.heap.size = w5.heap.size) := by show _ = _; rw [← hw7]; simp [World.setCell]
    clear hw7 c0 f0
    have q0 := cell_of_box HQ7.out 0 rfl
    have HW7 : Hid (Below w.heap.size w w7) := HST.out.old HBB.out (by have := HN0.out; omega)
    gi_wp2_with fail
    refine ⟨trivial, ?_⟩
    refine (callsIn_wide.2 (of_any la n lc ((k : Int) + 1) _)).mono ?_
    rintro e w' ⟨rfl, rfl⟩
    gi_wp2_with fail
    obtain ⟨g8, hg8⟩ : ∃ g8, w7.heap.size = g8 := ⟨_, rfl⟩
    obtain ⟨w8, hw8⟩ : ∃ w8, (w7.alloc (.cells #[.slice la n lc] 24)).alloc (.cells #[.int .i64 ((k : Int) + 1)] 3) = w8 := ⟨_, rfl⟩
    have hb8 : Below w7.heap.size w7 w8 := by rw [← hw8]; exact below_alloc_then (below_alloc _ _)
    have hsz8 : w8.heap.size = g8 + 2 := by rw [← hw8, ← hg8]; simp
    have hQ1 : Bx w8 g8 #[.slice la n lc] 24 := by rw [← hw8]; exact bx_later (below_alloc _ _) (bx_new hg8.symm)
    have hQ2 : Bx w8 (g8 + 1) #[.int .i64 ((k : Int) + 1)] 3 := by rw [← hw8]; exact bx_new (by simp [hg8])
    have hM8 : ∀ D ∈ Ds, n0 + 2 ≤ D ∧ D < g8 ∧ w8.heap[D]? = some (.deferred (some [])) := fun D hm => by
      obtain ⟨a1, a2, a3⟩ := HD1.out D hm
      have b1 : w5.heap[D]? = some (.deferred (some [])) := (HW5.out.block D a2).trans a3
      have b2 := HK7.out.same D _ b1 rfl
      have b3 := (Array.getElem?_eq_some_iff.1 b2).1
      exact ⟨a1, by omega, (hb8.block D b3).trans b2⟩
    have hI8 : KnI wB n0 g6 (g8 + 1) (knownL line l k) (List.replicate (63 - k) 0) f (k : Int) ((k : Int) + 1) Ds [] w8 :=
      ⟨HST.out.later hb8, bx_later hb8 HX7.out, bx_later hb8 HQ7.out, hQ2, fun D hm => (hM8 D hm).2.2⟩
    have hN6 : n0 < g6 := by have := (Array.getElem?_eq_some_iff.1 HX1.out).1; have := HG6.out; omega
    have hN8 : g6 < g8 := by have := (Array.getElem?_eq_some_iff.1 HQ7.out).1; omega
    have HN6 := Lib.hid hN6
    have HN8 := Lib.hid hN8
    clear hN6 hN8
    have HG8 := Lib.hid hg8
    have HSZ8 := Lib.hid hsz8
    have HQ81 := Lib.hid hQ1
    have HQ82 := Lib.hid hQ2
    have HM8 := Lib.hid hM8
    have HI8 := Lib.hid hI8
    have HW8 := Lib.hid (below_then HW7.out hb8)
    rw [hw8, hg8]
    clear hw8 hb8 hsz8 hQ1 hQ2 hM8 hI8 hg8 q0
    refine wpIn_rangeFunc_ownH (F := Fence.wide) rfl (by decide) (gf := 57) (lb := #[.pointer (some ⟨g8, 0, none⟩), .pointer (some ⟨g8 + 1, 0, none⟩)]) rfl trivial (enters_of Tryz.func57 (by kernel_rfl) rfl)
      (of1_stops 5 (by decide) w ((k : Int) + 1) (.slice la n lc) l g8 (g8 + 1) w8 HW8.out (cell_of_box HQ81.out 0 rfl) HQ82.out (HLN.out ▸ HL.out) HN.out) (fun h k => h.t k) (KpS.b (by have := HW8.out.size; omega) (by have := HSZ8.out; omega)) (Below.refl _ w8) (fun _ => rfl)
      (KnI wB n0 g6 (g8 + 1) (knownL line l k) (List.replicate (63 - k) 0) f (k : Int) ((k : Int) + 1) Ds) (fun _ _ _ => False) (KnI.own _ (by have := HSZ8.out; have := HSZB.out; have := HI8.out.1.le; omega) (fun D hm => by have := (HM8.out D hm).2.1; have := HSZ8.out; omega)) (fun _ _ _ _ _ hs _ _ => hs)
      HI8.out
      (fun x a' W => ∃ q, Bx W q #[.int .i64 x.dev, .int .i64 x.seq, .int .i64 x.time, .slice x.ad x.nd x.cd, .slice x.ao x.no x.co, .slice x.ae x.ne x.ce, .bool x.fm, .slice x.ah x.nh x.ch, .int .i64 x.note, .int .i64 x.whom, .int .i64 x.upto] 31 ∧ a' = { tmps := #[.slice ga m gc, .slice la n lc, undef, undef, .slice none 0 0, .pointer (some ⟨n0 + 1, 0, none⟩), .pointer (some ⟨g6, 0, none⟩), .pointer (some ⟨q, 0, none⟩), .slice (some ⟨n0, 0, none⟩) 64 64, .slice (some ⟨n0, 0, none⟩) 64 64, .int .i64 64, .int .i64 (k : Int), .bool true, .int .i64 (k : Int), .slice (some ⟨n0, 0, none⟩) 64 64, .int .i64 (k : Int), .slice ga m gc, .int .i64 (k : Int), .int .i64 ((k : Int) + 1), .int .i64 f, .pointer (some ⟨n0, k, none⟩), .slice la n lc, .int .i64 (k : Int), .int .i64 ((k : Int) + 1), .func (.func 57) #[] #[.pointer (some ⟨g8, 0, none⟩), .pointer (some ⟨g8 + 1, 0, none⟩)], .agg #[.int .i64 x.dev, .int .i64 x.seq, .int .i64 x.time, .slice x.ad x.nd x.cd, .slice x.ao x.no x.co, .slice x.ae x.ne x.ce, .bool x.fm, .slice x.ah x.nh x.ch, .int .i64 x.note, .int .i64 x.whom, .int .i64 x.upto], u26, u27, u28, u29, u30, u31, u32, u33, u34, u35, u36, u37, u38, u39, undef, undef], defers := [] })
      (fun x a' _ X Y row hs hg hr => by obtain ⟨q, h1, h2⟩ := hs; exact ⟨q, bx_kept h1 hg (fun r e => (hr r e).2), h2⟩)
      ?assign ?body ?done ?stop
    case stop =>
      rintro D c pre W _ _ h _
      exact h.elim
    case assign =>
      rintro l' pre x W K ⟨h1, h2, h3, h4, h5⟩ hK
      gi_wp2_with fail
      have hszW : w.heap.size ≤ W.heap.size := by have := h1.le; have := HSZB.out; have := HN0.out; omega
      have ha := below_alloc W (.cells #[.int .i64 x.dev, .int .i64 x.seq, .int .i64 x.time, .slice x.ad x.nd x.cd, .slice x.ao x.no x.co, .slice x.ae x.ne x.ce, .bool x.fm, .slice x.ah x.nh x.ch, .int .i64 x.note, .int .i64 x.whom, .int .i64 x.upto] 31)
      exact hK _ _ ((KeepsOthers.alloc _ _).from _) ⟨(Below.refl _ W).alloc hszW _, fun e => (Below.heap_alloc W _ _ (Array.getElem?_eq_some_iff.1 e).1).trans e⟩ ⟨h1.later ha, bx_later ha h2, bx_later ha h3, bx_later ha h4, fun D hm => (Below.heap_alloc W _ _ (Array.getElem?_eq_some_iff.1 (h5 D hm)).1).trans (h5 D hm)⟩ ⟨W.heap.size, bx_new rfl, rfl⟩
    case body =>
      rintro l' pre x a' W hl' ⟨r, hr⟩ ⟨h1, h2, h3, h4, h5⟩ ⟨q, hX, rfl⟩ hlt2
      have hszW : w.heap.size ≤ W.heap.size := by have := h1.le; have := HSZB.out; have := HN0.out; omega
      have hmix : Tryz.prog.follows .mixedOrders = true := by kernel_rfl
      clear hl' hr hlt2
      have e1 := cell_of_box hX 1 rfl
      gi_wp2_with fail
      refine ⟨trivial, ?_⟩
      obtain ⟨r, hr⟩ : ∃ r, inQ3 x.seq 1 1048576 = r := ⟨_, rfl⟩
      refine (CallsIn.inRound l' (callsIn_wide.2 (within_bk hr _))).mono ?_
      rintro e w' ⟨rfl, rfl⟩
      have H1 := Lib.hid h1
      have H2 := Lib.hid h2
      have H3 := Lib.hid h3
      have H4 := Lib.hid h4
      have H5 := Lib.hid h5
      have HSW := Lib.hid hszW
      have HR0 := Lib.hid hr
      obtain ⟨g, hg⟩ : ∃ g, pre.foldl seqF f = g := ⟨_, rfl⟩
      rw [hg] at H1
      have HG := Lib.hid hg
      clear hg hr h1 h4 h5 hszW
      have p0 := cell_of_box h2 0 rfl
      have q0 := cell_of_box h3 0 rfl
      have hln9 : (knownL line l k ++ g :: List.replicate (63 - k) 0).length = 64 := by rw [List.length_append, List.length_cons, List.length_replicate, knownL_len]; omega
      have HL9 := Lib.hid hln9
      obtain ⟨c0, -⟩ := H1.out.cell1 HR.out hln9 (i := k) (knownL_len _ _ _).symm rfl
      rw [Nat.zero_add] at c0
      clear hln9 h2 h3 hX
      cases r
      · clear p0 q0 c0 e1
        gi_wp2_with fail
        refine ⟨KeepsFrom.refl _ _, ⟨Below.refl _ _, fun e => e⟩, ?_⟩
        show KnI _ _ _ _ _ _ _ _ _ _ _ _
        unfold KnI
        rw [foldl_snoc, HG.out, seqF_out HR0.out]
        exact ⟨H1.out, H2.out, H3.out, H4.out, H5.out⟩
      gi_wp2_with fail
      refine wpIn_region_flowQ (by kernel_rfl) (by kernel_rfl) 10 [(8, ⟨fun v => v = .int .i64 (max g x.seq), fun _ _ _ _ => True⟩)] (by kernel_rfl) ?_ ?_ ?_
      · intro x hx
        simp only [List.mem_cons, List.not_mem_nil, or_false] at hx
        subst hx
        exact ⟨_, rfl⟩
      · intro x hx v lo hi w w' h hb
        simp only [List.mem_cons, List.not_mem_nil, or_false] at hx
        subst hx
        exact trivial
      · intro lo hi
        have kp0 := cell_regrown p0
        have kq0 := cell_regrown q0
        have ke1 := cell_regrown e1
        have kc0 := cell_regrown c0
        refine flowW_plain rfl ?_
        go_big_quiet_step (fail)
        refine wpQuiet_nil ?_
        refine flowW_plain rfl ?_
        go_big_quiet_step (fail)
        refine wpQuiet_nil ?_
        refine flowW_plain rfl ?_
        go_big_quiet_step (fail)
        refine wpQuiet_nil ?_
        refine flowW_plain rfl ?_
        go_big_quiet_step (fail)
        refine wpQuiet_nil ?_
        refine flowW_plain rfl ?_
        go_big_quiet_step (fail)
        refine wpQuiet_nil ?_
        refine flowW_plain rfl ?_
        go_big_quiet_step (fail)
        refine wpQuiet_nil ?_
        refine flowW_plain rfl ?_
        go_big_quiet_step (fail)
        refine wpQuiet_nil ?_
        refine flowW_plain rfl ?_
        go_big_quiet_step (fail)
        refine wpQuiet_nil ?_
        refine flowW_call rfl rfl ?_ ?_
        · intro W hW hF K hK
          clear kp0 kq0 ke1 kc0
          go_wp2_with fail
          exact hK _ _ rfl trivial (Below.refl _ _)
        rintro v rfl K hK
        go_simp
        refine hK _ ?_
        clear hK K
        refine flowW_plain rfl ?_
        go_big_quiet_step (fail)
        refine wpQuiet_nil ?_
        refine flowW_end fun w9 hw9 hF hD => ?_
        clear kp0 kq0 ke1 kc0
        simp only [List.drop_succ_cons, List.drop_zero]
        have HW9 := Lib.hid hw9
        have HS9 := Lib.hid (H1.out.later hw9)
        have HX9 := Lib.hid (bx_later hw9 H2.out)
        have HQ9 := Lib.hid (bx_later hw9 H3.out)
        have HV9 := Lib.hid (bx_later hw9 H4.out)
        have HD9 : Hid (∀ D ∈ Ds, w9.heap[D]? = some (.deferred (some []))) := fun D hm => (hw9.block D (Array.getElem?_eq_some_iff.1 (H5.out D hm)).1).trans (H5.out D hm)
        obtain ⟨c0, f0⟩ := HS9.out.cell1 HR.out HL9.out (i := k) (knownL_len _ _ _).symm rfl
        have hst := HS9.out.stored1 HR.out (i := k) (y := max g x.seq) (knownL_len _ _ _).symm rfl
        rw [Nat.zero_add] at c0 f0 hst
        have HST := Lib.hid hst
        have hbw9 := hw9
        clear hw9 hF hD p0 q0 hst
        have HB9 := Lib.hid hbw9
        go_wp2_with fail
        simp only [onlyN]
        clear c0 f0
        refine ⟨((keeps_below2 HB9.out).trans (KeepsOthers.setCell _ _ _)).from _, ⟨(HB9.out.mono HSW.out).setCell (p := ⟨n0, k, none⟩) (by show w.heap.size ≤ n0; have := HN0.out; omega) _, fun e => bx_seto ((HB9.out.block _ (Array.getElem?_eq_some_iff.1 e).1).trans e) (by have := HN6.out; have := HN8.out; omega) _ _⟩, ?_⟩
        show KnI _ _ _ _ _ _ _ _ _ _ _ _
        unfold KnI
        rw [foldl_snoc, HG.out, seqF_in HR0.out]
        exact ⟨HST.out, bx_seto HX9.out (by omega) _ _, bx_seto HQ9.out (by have := HN6.out; omega) _ _, bx_seto HV9.out (by have := HN6.out; have := HN8.out; omega) _ _, fun D hm => (KeepsOthers.setCell _ _ _).same D _ (HD9.out D hm) rfl⟩
    case done =>
      rintro D ys W hD hys ⟨h1, h2, h3, h4, h5⟩ hK
      gi_wp2_with fail
      have hK8 : w8.heap.size ≤ W.heap.size := by have := h1.le; have := (Array.getElem?_eq_some_iff.1 hK).1; omega
      have hnd : (D :: Ds).Nodup := List.nodup_cons.2 ⟨fun hm => by have := (HM8.out D hm).2.1; have := HSZ8.out; omega, HND.out⟩
      have hk1 : knownL line l (k + 1) ++ List.replicate (64 - (k + 1)) 0 = knownL line l k ++ ys.foldl seqF f :: List.replicate (63 - k) 0 := by
        rw [knownL_succ, List.append_assoc, List.singleton_append, hys, show 64 - (k + 1) = 63 - k by omega]
        show _ ++ List.foldl seqF (ofV line ((k : Int) + 1)) _ :: _ = _
        rw [HF0.out]
      refine ⟨⟨k + 1, D :: Ds, _, _, _, _, _, _, _, _, _, _, _, _, _, _, _, _, _, _, _, _, _, _, _, _, _, _, _, _, _, _, by omega, rfl, ?_, h2, ?_, hnd⟩, ?_⟩
      · show SB _ _ _ _ _ _ _
        rw [hk1]
        exact h1
      · intro E hE
        rcases List.mem_cons.1 hE with rfl | hE
        · exact ⟨by have := HSZ8.out; have := HN6.out; have := HN8.out; omega, (Array.getElem?_eq_some_iff.1 hK).1, hK⟩
        · have hh := h5 E hE
          exact ⟨(HM8.out E hE).1, (Array.getElem?_eq_some_iff.1 hh).1, hh⟩
      · show 64 - ((k : Int) + 1).toNat < 64 - (k : Int).toNat
        omega
end Go.Proofs.YtnolbabpkhdpmaaGreat
/- Layer 20 (past): (set).above. (printed by tools/gen_qb.py) -/
namespace Go.Proofs.YtnolbabpkhdpmaaGreat
open Go.RowKit Go.Sort Go.BigFrame
attribute [local irreducible] FlowW

/-- Is what a place of Deps names there, if it is above the line? -/
def depOk (line : List Int) (l : List TxS) (deps : List Int) (j : Nat) : Bool :=
  decide (deps.getD j 0 ≤ ofV line ((j : Int) + 1)) || ((findD ((j : Int) + 1) (deps.getD j 0) l).map fun x => uptoB x.deps deps).getD false
/-- Are a device's transactions there, from behind f to ahead of seq? -/
def runOk (l : List TxS) (dev f seq : Int) : Bool := (List.range (seq - f - 1).toNat).all fun (j : Nat) => (findD dev (f + 1 + (j : Int)) l).isSome
def aboveT (line : List Int) (last : Int) (l : List TxS) (known : List Int) (dev seq time : Int) (deps : List Int) : Bool :=
  if uptoB line deps = false then false else if uptoB deps known = false then false else if (List.range deps.length).all (depOk line l deps) = false then false
  else if runOk l dev (ofV line dev) seq = false then false else rightT time (timeT line last l deps) == 0
def mayT (line : List Int) (last : Int) (l : List TxS) (known : List Int) (dev seq time : Int) (fm : Bool) (deps : List Int) : Bool :=
  if inQ3 dev 1 64 = false then false else if inQ3 seq 1 1048576 = false then false else if rightVec deps = false then false else if (ofV deps dev != seq - 1) = true then false
  else if ofV line dev < seq then aboveT line last l known dev seq time deps else !fm && uptoB deps line
theorem vUpto_b {aa ab : Option Addr} {m n ca cb : Nat} {a b : List Int} {w : World} (r : Bool) (hr : uptoB a b = r) (hm : a.length = m) (hn : b.length = n) (ha : Rd w (.slice aa a.length ca) a.length (a.map ic)) (hb : Rd w (.slice ab b.length cb) b.length (b.map ic)) :
    Calls Tryz.prog 37 #[.slice aa m ca, .slice ab n cb] w fun e w' => e = .returned (.bool r) ∧ w = w' := by
  subst hr hm hn
  exact vUpto_any _ _ a b w ha hb
theorem depOk_false {line : List Int} {l : List TxS} {deps : List Int} {j : Nat} (hj : j < deps.length) (h : depOk line l deps j = false) : (List.range deps.length).all (depOk line l deps) = false :=
  List.all_eq_false.2 ⟨j, List.mem_range.2 hj, by rw [h]; simp⟩
theorem runOk_false {l : List TxS} {dev f seq : Int} {j : Nat} (hj : (j : Int) < seq - f - 1) (h : findD dev (f + 1 + (j : Int)) l = none) : runOk l dev f seq = false :=
  List.all_eq_false.2 ⟨j, List.mem_range.2 (by omega), by rw [h]; simp⟩
theorem time_b {dev seq time note whom upto : Int} {fm : Bool} {ga la ad ao ae ah : Option Addr} {m gc n lc nd cd no co ne ce nh ch : Nat} {line deps : List Int} {last tm : Int} {l : List TxS} {w : World} (hm : line.length = m) (hn : l.length = n) (hnd : deps.length = nd) (ht : timeT line last l deps = tm) (hv : Rd w (.slice ga line.length gc) line.length (line.map ic)) (hl : LRd w (.slice la l.length lc) l) (hd : Rd w (.slice ad deps.length cd) deps.length (deps.map ic)) :
    Calls Tryz.prog 13 #[.slice ga m gc, .int .i64 last, .slice la n lc, .agg #[.int .i64 dev, .int .i64 seq, .int .i64 time, .slice ad nd cd, .slice ao no co, .slice ae ne ce, .bool fm, .slice ah nh ch, .int .i64 note, .int .i64 whom, .int .i64 upto]] w fun e w' => e = .returned (.int .i64 tm) ∧ Below w.heap.size w w' := by
  subst hm hn hnd ht
  exact time_any w hv hl hd
theorem rightT_b {t p r : Int} {w : World} (hr : rightT t p = r) : Calls Tryz.prog 73 #[.int .i64 t, .int .i64 p] w fun e w' => e = .returned (.int .i64 r) ∧ w = w' := hr ▸ rightT_any t p w
set_option maxRecDepth 100000 in
set_option maxHeartbeats 8000000 in
theorem above_any {dev seq time note whom upto : Int} {fm : Bool} {ad ao ae ah : Option Addr} {cd no co ne ce nh ch : Nat} {ga la ka : Option Addr} {gc lc kc g : Nat} {line known deps : List Int} {last : Int} {l : List TxS} (w : World) (hv : Rd w (.slice ga line.length gc) line.length (line.map ic)) (hk : Rd w (.slice ka known.length kc) known.length (known.map ic)) (hl : LRd w (.slice la l.length lc) l) (hm : DM g w l) (hd : Rd w (.slice ad deps.length cd) deps.length (deps.map ic)) (hwr : ∀ d, -9223372036854775808 ≤ ofV line d) (hq : seq ≤ 1048576) (hlo : ofV line dev < seq) :
    Calls Tryz.prog 50 #[.agg #[.slice ga line.length gc, .int .i64 last, .slice la l.length lc, .map (some g), .slice ka known.length kc], .agg #[.int .i64 dev, .int .i64 seq, .int .i64 time, .slice ad deps.length cd, .slice ao no co, .slice ae ne ce, .bool fm, .slice ah nh ch, .int .i64 note, .int .i64 whom, .int .i64 upto]] w fun e w' => e = .returned (.bool (aboveT line last l known dev seq time deps)) ∧ Below w.heap.size w w' := by
  obtain ⟨_, _, he1, hmn, hmm, -, -⟩ := id hv
  cases he1
  obtain ⟨_, _, he1, hqn, hqm, -, -⟩ := id hk
  cases he1
  obtain ⟨_, _, he1, hnn, hnm, -, -⟩ := id hl.1
  cases he1
  obtain ⟨_, _, he1, hdn, hdm, -, -⟩ := id hd
  cases he1
  unfold maxLen at hmm hqm hnm hdm
  obtain ⟨m, hgl⟩ : ∃ m, line.length = m := ⟨_, rfl⟩
  obtain ⟨q, hkl⟩ : ∃ q, known.length = q := ⟨_, rfl⟩
  obtain ⟨n, hln⟩ : ∃ n, l.length = n := ⟨_, rfl⟩
  obtain ⟨nd, hdl⟩ : ∃ nd, deps.length = nd := ⟨_, rfl⟩
  rw [hgl] at hmn ⊢
  rw [hkl] at hqn ⊢
  rw [hln] at hnn ⊢
  rw [hdl] at hdn ⊢
  obtain ⟨w1, hw1⟩ : ∃ w1, w.alloc (.cells #[.slice ga m gc, .int .i64 last, .slice la n lc, .map (some g), .slice ka q kc] 48) = w1 := ⟨_, rfl⟩
  have hbw1 : Below w.heap.size w w1 := by rw [← hw1]; exact below_alloc _ _
  have bw1 : Bx w1 w.heap.size #[.slice ga m gc, .int .i64 last, .slice la n lc, .map (some g), .slice ka q kc] 48 := by rw [← hw1]; exact bx_new rfl
  have Hw1 := Lib.hid hw1
  have HS0 := Lib.hid bw1
  obtain ⟨w2, hw2⟩ : ∃ w2, w1.alloc (.cells #[.int .i64 dev, .int .i64 seq, .int .i64 time, .slice ad nd cd, .slice ao no co, .slice ae ne ce, .bool fm, .slice ah nh ch, .int .i64 note, .int .i64 whom, .int .i64 upto] 31) = w2 := ⟨_, rfl⟩
  have hbw2 : Below w1.heap.size w1 w2 := by rw [← hw2]; exact below_alloc _ _
  have bw2 : Bx w2 w1.heap.size #[.int .i64 dev, .int .i64 seq, .int .i64 time, .slice ad nd cd, .slice ao no co, .slice ae ne ce, .bool fm, .slice ah nh ch, .int .i64 note, .int .i64 whom, .int .i64 upto] 31 := by rw [← hw2]; exact bx_new rfl
  have Hw2 := Lib.hid hw2
  have HX := Lib.hid bw2
  have HS := Lib.hid (bx_later hbw2 HS0.out)
  have hsz1 : w1.heap.size = w.heap.size + 1 := by rw [← hw1]; simp
  rw [hsz1] at HX
  have hb2 := below_then hbw1 hbw2
  have HB2 := Lib.hid hb2
  have HVV := Lib.hid (hv.later hb2)
  have HK := Lib.hid (hk.later hb2)
  have HL := Lib.hid (hl.later hb2)
  have HM := Lib.hid (hm.later hb2)
  have HDD := Lib.hid (hd.later hb2)
  have HWR := Lib.hid hwr
  have HGL := Lib.hid hgl
  have HKL := Lib.hid hkl
  have HLN := Lib.hid hln
  have HDL := Lib.hid hdl
  clear hv hk hl hm hd hwr hgl hkl hln hdl hw1 hw2 hbw1 hbw2 bw1 bw2 hb2 hmm hqm hnm HS0 hsz1 hmn hqn hnn
  have HSQ := Lib.hid hq
  have HLO := Lib.hid hlo
  clear hq hlo
  go_enter Tryz.func50, Tryz.ntmps50
  go_upto_region 1 with fail
  rw [Hw1.out, Hw2.out]
  have s0 := cell_of_box (bx_later (Below.refl w2.heap.size w2) HS.out) 0 rfl
  have s1 := cell_of_box (bx_later (Below.refl w2.heap.size w2) HS.out) 1 rfl
  have s2 := cell_of_box (bx_later (Below.refl w2.heap.size w2) HS.out) 2 rfl
  have s3 := cell_of_box (bx_later (Below.refl w2.heap.size w2) HS.out) 3 rfl
  have s4 := cell_of_box (bx_later (Below.refl w2.heap.size w2) HS.out) 4 rfl
  have p0 := cell_of_box (bx_later (Below.refl w2.heap.size w2) HX.out) 0 rfl
  have p1 := cell_of_box (bx_later (Below.refl w2.heap.size w2) HX.out) 1 rfl
  have p2 := cell_of_box (bx_later (Below.refl w2.heap.size w2) HX.out) 2 rfl
  have p3 := cell_of_box (bx_later (Below.refl w2.heap.size w2) HX.out) 3 rfl
  have p4 := cell_of_box (bx_later (Below.refl w2.heap.size w2) HX.out) 4 rfl
  have p5 := cell_of_box (bx_later (Below.refl w2.heap.size w2) HX.out) 5 rfl
  have p6 := cell_of_box (bx_later (Below.refl w2.heap.size w2) HX.out) 6 rfl
  have p7 := cell_of_box (bx_later (Below.refl w2.heap.size w2) HX.out) 7 rfl
  have p8 := cell_of_box (bx_later (Below.refl w2.heap.size w2) HX.out) 8 rfl
  have p9 := cell_of_box (bx_later (Below.refl w2.heap.size w2) HX.out) 9 rfl
  have p10 := cell_of_box (bx_later (Below.refl w2.heap.size w2) HX.out) 10 rfl
  cases hu : uptoB line deps
  · have HU := Lib.hid hu
    have HRR : Hid (aboveT line last l known dev seq time deps = false) := by show _ = _; unfold aboveT; rw [if_pos hu]
    clear hu
    go_wp2_with fail
    refine (vUpto_b false HU.out HGL.out HDL.out HVV.out HDD.out).mono ?_
    rintro e w3 ⟨rfl, rfl⟩
    go_wp2_with fail
    go_ret
    exact ⟨ret_bool HRR.out.symm, HB2.out⟩
  have HU := Lib.hid hu
  clear hu
  go_wp2_with fail
  refine (vUpto_b true HU.out HGL.out HDL.out HVV.out HDD.out).mono ?_
  rintro e w3 ⟨rfl, rfl⟩
  cases hu2 : uptoB deps known
  · have HU2 := Lib.hid hu2
    have HRR : Hid (aboveT line last l known dev seq time deps = false) := by show _ = _; unfold aboveT; rw [HU.out, hu2]; rfl
    clear hu2
    go_wp2_with fail
    refine (vUpto_b false HU2.out HDL.out HKL.out HDD.out HK.out).mono ?_
    rintro e w3 ⟨rfl, rfl⟩
    go_wp2_with fail
    go_ret
    exact ⟨ret_bool HRR.out.symm, HB2.out⟩
  have HU2 := Lib.hid hu2
  clear hu2
  go_wp2_with fail
  refine (vUpto_b true HU2.out HDL.out HKL.out HDD.out HK.out).mono ?_
  rintro e w3 ⟨rfl, rfl⟩
  have HRR0 : Hid (aboveT line last l known dev seq time deps = if (List.range deps.length).all (depOk line l deps) = false then false else if runOk l dev (ofV line dev) seq = false then false else rightT time (timeT line last l deps) == 0) := by show _ = _; unfold aboveT; rw [HU.out, HU2.out]; rfl
  clear HK
  go_wp2_with fail
  clear p0 p1 p2 p3 p4 p5 p6 p7 p8 p9 p10 s0 s1 s2 s3 s4
  go_loopw [29] (fun vi wr => ∃ k : Nat, k ≤ nd ∧ vi = .int .i64 k ∧ Hid (∀ j : Nat, j < k → depOk line l deps j = true) ∧ Hid (Below w2.heap.size w2 wr)) (fun vi _ => nd - (intOf vi).toNat)
  case atStart => exact ⟨0, Nat.zero_le _, by go_num, (fun j hj => absurd hj (by omega)), Below.refl _ _⟩
  case round =>
    obtain ⟨k, hk, rfl, hall, HB⟩ := hrel
    rename World => wr
    have s0 := cell_of_box (bx_later HB.out HS.out) 0 rfl
    have s1 := cell_of_box (bx_later HB.out HS.out) 1 rfl
    have s2 := cell_of_box (bx_later HB.out HS.out) 2 rfl
    have s3 := cell_of_box (bx_later HB.out HS.out) 3 rfl
    have s4 := cell_of_box (bx_later HB.out HS.out) 4 rfl
    have p0 := cell_of_box (bx_later HB.out HX.out) 0 rfl
    have p1 := cell_of_box (bx_later HB.out HX.out) 1 rfl
    have p2 := cell_of_box (bx_later HB.out HX.out) 2 rfl
    have p3 := cell_of_box (bx_later HB.out HX.out) 3 rfl
    have p4 := cell_of_box (bx_later HB.out HX.out) 4 rfl
    have p5 := cell_of_box (bx_later HB.out HX.out) 5 rfl
    have p6 := cell_of_box (bx_later HB.out HX.out) 6 rfl
    have p7 := cell_of_box (bx_later HB.out HX.out) 7 rfl
    have p8 := cell_of_box (bx_later HB.out HX.out) 8 rfl
    have p9 := cell_of_box (bx_later HB.out HX.out) 9 rfl
    have p10 := cell_of_box (bx_later HB.out HX.out) 10 rfl
    by_cases hlt : k < nd
    · have hk2 : (k : Int) < (nd : Int) := by omega
      have hxd := HDD.out.later HB.out
      rw [HDL.out] at hxd
      obtain ⟨A, x1, c0, _⟩ := rd_one elVec ic hxd HDL.out.symm k (HDL.out.symm ▸ hlt)
      obtain ⟨d, hd0⟩ : ∃ d, deps[k]'(HDL.out.symm ▸ hlt) = d := ⟨_, rfl⟩
      rw [hd0] at c0
      have hdk : depOk line l deps k = (decide (d ≤ ofV line ((k : Int) + 1)) || ((findD ((k : Int) + 1) d l).map fun x => uptoB x.deps deps).getD false) := by
        unfold depOk
        rw [List.getD_eq_getElem?_getD, List.getElem?_eq_getElem (HDL.out.symm ▸ hlt), hd0]; rfl
      have hbad : depOk line l deps k = false → aboveT line last l known dev seq time deps = false := fun h => HRR0.out.trans (if_pos (depOk_false (HDL.out.symm ▸ hlt) h))
      have HBAD := Lib.hid hbad
      obtain ⟨f, hf⟩ : ∃ f, ofV line ((k : Int) + 1) = f := ⟨_, rfl⟩
      rw [hf] at hdk
      have HDK := Lib.hid hdk
      have HF := Lib.hid hf
      clear hd0 hdk hbad hf hxd
      go_wp2_with fail
      refine (ofV_f HGL.out HF.out (HVV.out.later HB.out)).mono ?_
      rintro e w4 ⟨rfl, rfl⟩
      by_cases hle : d ≤ f
      · have hle2 : decide (d ≤ f) = true := decide_eq_true hle
        have HOK : Hid (depOk line l deps k = true) := by show _ = _; rw [HDK.out, hle2]; rfl
        go_wp2_with fail
        go_roundw
        case rel => exact ⟨k + 1, by omega, by go_num, (fun j hj => by rcases Nat.lt_or_ge j k with h | h; exact hall.out j h; rw [show j = k by omega]; exact HOK.out), HB.out⟩
        case measure => simp [intOf]; omega
      have hle2 : decide (d ≤ f) = false := decide_eq_false hle
      cases hr : findD ((k : Int) + 1) d l with
      | none =>
        have HRR : Hid (aboveT line last l known dev seq time deps = false) := HBAD.out (by rw [HDK.out, hle2, hr]; rfl)
        have hlk := (HM.out.later HB.out).look ((k : Int) + 1) d hr
        simp only [Option.map_none, Option.getD_none, Option.isSome_none] at hlk
        unfold zeroTx at hlk
        clear hr hle
        go_wp2_with fail
        go_ret
        exact ⟨ret_bool HRR.out.symm, below_then HB2.out (below_then HB.out (below_alloc _ _))⟩
      | some x =>
        have hlk := (HM.out.later HB.out).look ((k : Int) + 1) d hr
        simp only [Option.map_some, Option.getD_some, Option.isSome_some] at hlk
        unfold TxS.agg at hlk
        have hxm := (findD_some hr).1
        have HXR := Lib.hid (HL.out.2 x hxm)
        obtain ⟨u, hu⟩ : ∃ u, uptoB x.deps deps = u := ⟨_, rfl⟩
        have hdk : depOk line l deps k = u := by rw [HDK.out, hle2, hr, ← hu]; rfl
        have HDU := Lib.hid hdk
        have HUX := Lib.hid hu
        clear hr hle hxm hu hdk
        obtain ⟨w5, hw5⟩ : ∃ w5, wr.alloc (.cells #[.int .i64 x.dev, .int .i64 x.seq, .int .i64 x.time, .slice x.ad x.nd x.cd, .slice x.ao x.no x.co, .slice x.ae x.ne x.ce, .bool x.fm, .slice x.ah x.nh x.ch, .int .i64 x.note, .int .i64 x.whom, .int .i64 x.upto] 31) = w5 := ⟨_, rfl⟩
        have hbw5 : Below wr.heap.size wr w5 := by rw [← hw5]; exact below_alloc _ _
        have bw5 : Bx w5 wr.heap.size #[.int .i64 x.dev, .int .i64 x.seq, .int .i64 x.time, .slice x.ad x.nd x.cd, .slice x.ao x.no x.co, .slice x.ae x.ne x.ce, .bool x.fm, .slice x.ah x.nh x.ch, .int .i64 x.note, .int .i64 x.whom, .int .i64 x.upto] 31 := by rw [← hw5]; exact bx_new rfl
        have Hw5 := Lib.hid hw5
        have HQ := Lib.hid bw5
        have HB5 := Lib.hid (below_then HB.out hbw5)
        clear hw5 hbw5 bw5
        go_upto_region 8 with fail
        rw [Hw5.out]
        clear p0 p1 p2 p3 p4 p5 p6 p7 p8 p9 p10 s0 s1 s2 s3 s4 hlk c0 x1
        have p3 := cell_of_box (bx_later HB5.out HX.out) 3 rfl
        have q3 := cell_of_box HQ.out 3 rfl
        go_wp2_with fail
        refine (vUpto_b u HUX.out HXR.out.hnd.symm HDL.out (HXR.out.hnd ▸ (HXR.out.later HB5.out).deps') (HDD.out.later HB5.out)).mono ?_
        rintro e w6 ⟨rfl, rfl⟩
        clear p3 q3
        cases u
        · go_wp2_with fail
          go_ret
          exact ⟨ret_bool (HBAD.out HDU.out).symm, below_then HB2.out HB5.out⟩
        · go_wp2_with fail
          go_roundw
          case rel => exact ⟨k + 1, by omega, by go_num, (fun j hj => by rcases Nat.lt_or_ge j k with h | h; exact hall.out j h; rw [show j = k by omega]; exact HDU.out), HB5.out⟩
          case measure => simp [intOf]; omega
    · have hkn : nd = k := by omega
      subst hkn
      have hk2 : ¬ (nd : Int) < (nd : Int) := by omega
      have HRR1 : Hid (aboveT line last l known dev seq time deps = if runOk l dev (ofV line dev) seq = false then false else rightT time (timeT line last l deps) == 0) := HRR0.out.trans (if_neg (by rw [List.all_eq_true.2 fun j hj => hall.out j (by have := List.mem_range.1 hj; have := HDL.out; omega)]; simp))
      obtain ⟨f, hf⟩ : ∃ f, ofV line dev = f := ⟨_, rfl⟩
      have HF := Lib.hid hf
      have hflo : -9223372036854775808 ≤ f := hf ▸ HWR.out dev
      have hfs : f < seq := hf ▸ HLO.out
      have hs2 := HSQ.out
      rw [hf] at HRR1
      clear hf hall hlt hk
      go_wp2_with fail
      refine (ofV_f HGL.out HF.out (HVV.out.later HB.out)).mono ?_
      rintro e w4 ⟨rfl, rfl⟩
      go_wp2_with fail
      clear p0 p1 p2 p3 p4 p5 p6 p7 p8 p9 p10 s0 s1 s2 s3 s4
      go_loopw [9] (fun vi wz => ∃ k : Nat, f + 1 + (k : Int) ≤ seq ∧ vi = .int .i64 (f + 1 + (k : Int)) ∧ Hid (∀ j : Nat, j < k → (findD dev (f + 1 + (j : Int)) l).isSome = true) ∧ Hid (Below w2.heap.size w2 wz)) (fun vi _ => (seq - intOf vi).toNat)
      case atStart => exact ⟨0, by omega, by go_num, (fun j hj => absurd hj (by omega)), HB.out⟩
      case round =>
        obtain ⟨k, hk, rfl, hall, HBZ⟩ := hrel
        rename World => wz
        obtain ⟨z, hz⟩ : ∃ z, f + 1 + (k : Int) = z := ⟨_, rfl⟩
        have HZ := Lib.hid hz
        rw [hz] at hk ⊢
        have hzl : -9223372036854775807 ≤ z := by omega
        clear hz
        have s0 := cell_of_box (bx_later HBZ.out HS.out) 0 rfl
        have s1 := cell_of_box (bx_later HBZ.out HS.out) 1 rfl
        have s2 := cell_of_box (bx_later HBZ.out HS.out) 2 rfl
        have s3 := cell_of_box (bx_later HBZ.out HS.out) 3 rfl
        have s4 := cell_of_box (bx_later HBZ.out HS.out) 4 rfl
        have p0 := cell_of_box (bx_later HBZ.out HX.out) 0 rfl
        have p1 := cell_of_box (bx_later HBZ.out HX.out) 1 rfl
        have p2 := cell_of_box (bx_later HBZ.out HX.out) 2 rfl
        have p3 := cell_of_box (bx_later HBZ.out HX.out) 3 rfl
        have p4 := cell_of_box (bx_later HBZ.out HX.out) 4 rfl
        have p5 := cell_of_box (bx_later HBZ.out HX.out) 5 rfl
        have p6 := cell_of_box (bx_later HBZ.out HX.out) 6 rfl
        have p7 := cell_of_box (bx_later HBZ.out HX.out) 7 rfl
        have p8 := cell_of_box (bx_later HBZ.out HX.out) 8 rfl
        have p9 := cell_of_box (bx_later HBZ.out HX.out) 9 rfl
        have p10 := cell_of_box (bx_later HBZ.out HX.out) 10 rfl
        by_cases hlt : z < seq
        · have hlt2 : decide (z < seq) = true := decide_eq_true hlt
          cases hr : findD dev z l with
          | none =>
            have HRR : Hid (aboveT line last l known dev seq time deps = false) := by show _ = _; rw [HRR1.out, if_pos (runOk_false (j := k) (by have := HZ.out; omega) (HZ.out.symm ▸ hr))]
            have hlk := (HM.out.later HBZ.out).look dev z hr
            simp only [Option.map_none, Option.getD_none, Option.isSome_none] at hlk
            unfold zeroTx at hlk
            clear hr
            go_wp2_with fail
            go_ret
            exact ⟨ret_bool HRR.out.symm, below_then HB2.out (below_then HBZ.out (below_alloc _ _))⟩
          | some x =>
            have hlk := (HM.out.later HBZ.out).look dev z hr
            simp only [Option.map_some, Option.getD_some, Option.isSome_some] at hlk
            unfold TxS.agg at hlk
            have HOK : Hid ((findD dev (f + 1 + (k : Int)) l).isSome = true) := by show _ = _; rw [HZ.out, hr]; rfl
            clear hr
            obtain ⟨w5, hw5⟩ : ∃ w5, wz.alloc (.cells #[.int .i64 x.dev, .int .i64 x.seq, .int .i64 x.time, .slice x.ad x.nd x.cd, .slice x.ao x.no x.co, .slice x.ae x.ne x.ce, .bool x.fm, .slice x.ah x.nh x.ch, .int .i64 x.note, .int .i64 x.whom, .int .i64 x.upto] 31) = w5 := ⟨_, rfl⟩
            have hbw5 : Below wz.heap.size wz w5 := by rw [← hw5]; exact below_alloc _ _
            have bw5 : Bx w5 wz.heap.size #[.int .i64 x.dev, .int .i64 x.seq, .int .i64 x.time, .slice x.ad x.nd x.cd, .slice x.ao x.no x.co, .slice x.ae x.ne x.ce, .bool x.fm, .slice x.ah x.nh x.ch, .int .i64 x.note, .int .i64 x.whom, .int .i64 x.upto] 31 := by rw [← hw5]; exact bx_new rfl
            have Hw5 := Lib.hid hw5
            have HQ := Lib.hid bw5
            have HB5 := Lib.hid (below_then HBZ.out hbw5)
            clear hw5 hbw5 bw5
            go_upto_region 15 with fail
            rw [Hw5.out]
            clear p0 p1 p2 p3 p4 p5 p6 p7 p8 p9 p10 s0 s1 s2 s3 s4 hlk
            go_wp2_with fail
            go_roundw
            case rel => exact ⟨k + 1, by have := HZ.out; omega, by rw [show f + 1 + ((k + 1 : Nat) : Int) = z + 1 by have := HZ.out; omega], (fun j hj => by rcases Nat.lt_or_ge j k with h | h; exact hall.out j h; rw [show j = k by omega]; exact HOK.out), HB5.out⟩
            case measure => simp [intOf]; omega
        · have hlt2 : decide (z < seq) = false := decide_eq_false hlt
          have HRR2 : Hid (aboveT line last l known dev seq time deps = (rightT time (timeT line last l deps) == 0)) := HRR1.out.trans (if_neg (by unfold runOk; rw [List.all_eq_true.2 fun j hj => hall.out j (by have := List.mem_range.1 hj; have := HZ.out; omega)]; simp))
          obtain ⟨tm, htm⟩ : ∃ tm, timeT line last l deps = tm := ⟨_, rfl⟩
          have HTM := Lib.hid htm
          rw [htm] at HRR2
          obtain ⟨rt, hrt⟩ : ∃ rt, rightT time tm = rt := ⟨_, rfl⟩
          have HRT := Lib.hid hrt
          rw [hrt] at HRR2
          have HBE := HBZ
          clear htm hrt hall
          go_upto_region 17 with fail
          refine wp_region_flow (by kernel_rfl) 13 [(9, ⟨fun v => v = .int .i64 tm, fun _ _ _ _ => True⟩), (10, ⟨fun v => v = .int .i64 rt, fun _ _ _ _ => True⟩)] (by kernel_rfl) ?_ ?_ ?_
          · intro x hx
            simp only [List.mem_cons, List.not_mem_nil, or_false] at hx
            rcases hx with rfl | rfl
            · exact ⟨_, rfl⟩
            · exact ⟨_, rfl⟩
          · intro x hx v lo hi w w' h hb
            simp only [List.mem_cons, List.not_mem_nil, or_false] at hx
            rcases hx with rfl | rfl
            · exact trivial
            · exact trivial
          · intro lo hi
            have kp0 := cell_regrown p0
            have kp1 := cell_regrown p1
            have kp2 := cell_regrown p2
            have kp3 := cell_regrown p3
            have kp4 := cell_regrown p4
            have kp5 := cell_regrown p5
            have kp6 := cell_regrown p6
            have kp7 := cell_regrown p7
            have kp8 := cell_regrown p8
            have kp9 := cell_regrown p9
            have kp10 := cell_regrown p10
            have ks0 := cell_regrown s0
            have ks1 := cell_regrown s1
            have ks2 := cell_regrown s2
            have ks3 := cell_regrown s3
            have ks4 := cell_regrown s4
            refine flowW_plain rfl ?_
            go_big_quiet_step (fail)
            refine wpQuiet_nil ?_
            refine flowW_plain rfl ?_
            go_big_quiet_step (fail)
            refine wpQuiet_nil ?_
            refine flowW_plain rfl ?_
            go_big_quiet_step (fail)
            refine wpQuiet_nil ?_
            refine flowW_plain rfl ?_
            go_big_quiet_step (fail)
            refine wpQuiet_nil ?_
            refine flowW_plain rfl ?_
            go_big_quiet_step (fail)
            refine wpQuiet_nil ?_
            refine flowW_plain rfl ?_
            go_big_quiet_step (fail)
            refine wpQuiet_nil ?_
            refine flowW_plain rfl ?_
            go_big_quiet_step (fail)
            refine wpQuiet_nil ?_
            refine flowW_plain rfl ?_
            go_big_quiet_step (fail)
            refine wpQuiet_nil ?_
            refine flowW_plain rfl ?_
            go_big_quiet_step (fail)
            refine wpQuiet_nil ?_
            refine flowW_call rfl rfl ?_ ?_
            · intro W hW hF K hK
              clear kp0 kp1 kp2 kp3 kp4 kp5 kp6 kp7 kp8 kp9 kp10 ks0 ks1 ks2 ks3 ks4
              go_wp2_with fail
              refine (time_b HGL.out HLN.out HDL.out HTM.out (HVV.out.later (below_then HBE.out hW)) (HL.out.later (below_then HBE.out hW)) (HDD.out.later (below_then HBE.out hW))).mono ?_
              rintro e wq ⟨rfl, hbq⟩
              go_wp2_with fail
              exact hK _ _ rfl trivial hbq
            rintro v rfl K hK
            go_simp
            refine hK _ ?_
            clear hK K
            refine flowW_call rfl rfl ?_ ?_
            · intro W hW hF K hK
              clear kp0 kp1 kp2 kp3 kp4 kp5 kp6 kp7 kp8 kp9 kp10 ks0 ks1 ks2 ks3 ks4
              go_wp2_with fail
              refine (rightT_b HRT.out).mono ?_
              rintro e wq ⟨rfl, rfl⟩
              go_wp2_with fail
              exact hK _ _ rfl trivial (Below.refl _ _)
            rintro v rfl K hK
            go_simp
            refine hK _ ?_
            clear hK K
            refine flowW_plain rfl ?_
            go_big_quiet_step (fail)
            refine wpQuiet_nil ?_
            refine flowW_plain rfl ?_
            go_big_quiet_step (fail)
            refine wpQuiet_nil ?_
            refine flowW_end fun w9 hw9 hF hD => ?_
            clear kp0 kp1 kp2 kp3 kp4 kp5 kp6 kp7 kp8 kp9 kp10 ks0 ks1 ks2 ks3 ks4
            simp only [List.drop_succ_cons, List.drop_zero]
            clear hF hD p0 p1 p2 p3 p4 p5 p6 p7 p8 p9 p10 s0 s1 s2 s3 s4
            go_wp2_with fail
            go_ret
            exact ⟨ret_bool HRR2.out.symm, below_then HB2.out (below_then HBE.out hw9)⟩
end Go.Proofs.YtnolbabpkhdpmaaGreat
/- Layer 20 (past): (set).may. (printed by tools/gen_qb.py, with gen_qc.py) -/
namespace Go.Proofs.YtnolbabpkhdpmaaGreat
open Go.RowKit Go.Sort Go.BigFrame
attribute [local irreducible] FlowW

theorem inQ3_bd {n a b : Int} (h : inQ3 n a b = true) : a ≤ n ∧ n ≤ b := by unfold inQ3 at h; simpa using h
theorem vecRight_b {aa : Option Addr} {m c : Nat} {a : List Int} {w : World} {r : Bool} (hr : rightVec a = r) (hm : a.length = m) (h : Rd w (.slice aa a.length c) a.length (a.map ic)) : Calls Tryz.prog 23 #[.slice aa m c] w fun e w' => e = .returned (.bool r) ∧ w = w' := by
  subst hr hm
  exact vecRight_any _ a w h
theorem above_m {dev seq time note whom upto : Int} {fm : Bool} {ad ao ae ah : Option Addr} {nd cd no co ne ce nh ch m q n : Nat} {ga la ka : Option Addr} {gc lc kc g : Nat} {line known deps : List Int} {last : Int} {l : List TxS} {w : World} (h1 : line.length = m) (h2 : known.length = q) (h3 : l.length = n) (h4 : deps.length = nd) (hv : Rd w (.slice ga line.length gc) line.length (line.map ic)) (hk : Rd w (.slice ka known.length kc) known.length (known.map ic)) (hl : LRd w (.slice la l.length lc) l) (hm : DM g w l) (hd : Rd w (.slice ad deps.length cd) deps.length (deps.map ic)) (hwr : ∀ d, -9223372036854775808 ≤ ofV line d) (hq : seq ≤ 1048576) (hlo : ofV line dev < seq) :
    Calls Tryz.prog 50 #[.agg #[.slice ga m gc, .int .i64 last, .slice la n lc, .map (some g), .slice ka q kc], .agg #[.int .i64 dev, .int .i64 seq, .int .i64 time, .slice ad nd cd, .slice ao no co, .slice ae ne ce, .bool fm, .slice ah nh ch, .int .i64 note, .int .i64 whom, .int .i64 upto]] w fun e w' => e = .returned (.bool (aboveT line last l known dev seq time deps)) ∧ Below w.heap.size w w' := by
  subst h1 h2 h3 h4
  exact above_any w hv hk hl hm hd hwr hq hlo
set_option maxRecDepth 100000 in
set_option maxHeartbeats 8000000 in
theorem may_any {dev seq time note whom upto : Int} {fm : Bool} {ad ao ae ah : Option Addr} {cd no co ne ce nh ch : Nat} {ga la ka : Option Addr} {gc lc kc g : Nat} {line known deps : List Int} {last : Int} {l : List TxS} (w : World) (hv : Rd w (.slice ga line.length gc) line.length (line.map ic)) (hk : Rd w (.slice ka known.length kc) known.length (known.map ic)) (hl : LRd w (.slice la l.length lc) l) (hm : DM g w l) (hd : Rd w (.slice ad deps.length cd) deps.length (deps.map ic)) (hwr : ∀ d, -9223372036854775808 ≤ ofV line d) :
    Calls Tryz.prog 22 #[.agg #[.slice ga line.length gc, .int .i64 last, .slice la l.length lc, .map (some g), .slice ka known.length kc], .agg #[.int .i64 dev, .int .i64 seq, .int .i64 time, .slice ad deps.length cd, .slice ao no co, .slice ae ne ce, .bool fm, .slice ah nh ch, .int .i64 note, .int .i64 whom, .int .i64 upto]] w fun e w' => e = .returned (.bool (mayT line last l known dev seq time fm deps)) ∧ Below w.heap.size w w' := by
  obtain ⟨_, _, he1, hmn, hmm, -, -⟩ := id hv
  cases he1
  obtain ⟨_, _, he1, hqn, hqm, -, -⟩ := id hk
  cases he1
  obtain ⟨_, _, he1, hnn, hnm, -, -⟩ := id hl.1
  cases he1
  obtain ⟨_, _, he1, hdn, hdm, -, -⟩ := id hd
  cases he1
  unfold maxLen at hmm hqm hnm hdm
  obtain ⟨m, hgl⟩ : ∃ m, line.length = m := ⟨_, rfl⟩
  obtain ⟨q, hkl⟩ : ∃ q, known.length = q := ⟨_, rfl⟩
  obtain ⟨n, hln⟩ : ∃ n, l.length = n := ⟨_, rfl⟩
  obtain ⟨nd, hdl⟩ : ∃ nd, deps.length = nd := ⟨_, rfl⟩
  rw [hgl] at hmn ⊢
  rw [hkl] at hqn ⊢
  rw [hln] at hnn ⊢
  rw [hdl] at hdn ⊢
  obtain ⟨w1, hw1⟩ : ∃ w1, w.alloc (.cells #[.slice ga m gc, .int .i64 last, .slice la n lc, .map (some g), .slice ka q kc] 48) = w1 := ⟨_, rfl⟩
  have hbw1 : Below w.heap.size w w1 := by rw [← hw1]; exact below_alloc _ _
  have bw1 : Bx w1 w.heap.size #[.slice ga m gc, .int .i64 last, .slice la n lc, .map (some g), .slice ka q kc] 48 := by rw [← hw1]; exact bx_new rfl
  have Hw1 := Lib.hid hw1
  have HS0 := Lib.hid bw1
  obtain ⟨w2, hw2⟩ : ∃ w2, w1.alloc (.cells #[.int .i64 dev, .int .i64 seq, .int .i64 time, .slice ad nd cd, .slice ao no co, .slice ae ne ce, .bool fm, .slice ah nh ch, .int .i64 note, .int .i64 whom, .int .i64 upto] 31) = w2 := ⟨_, rfl⟩
  have hbw2 : Below w1.heap.size w1 w2 := by rw [← hw2]; exact below_alloc _ _
  have bw2 : Bx w2 w1.heap.size #[.int .i64 dev, .int .i64 seq, .int .i64 time, .slice ad nd cd, .slice ao no co, .slice ae ne ce, .bool fm, .slice ah nh ch, .int .i64 note, .int .i64 whom, .int .i64 upto] 31 := by rw [← hw2]; exact bx_new rfl
  have Hw2 := Lib.hid hw2
  have HX := Lib.hid bw2
  have HS := Lib.hid (bx_later hbw2 HS0.out)
  have hsz1 : w1.heap.size = w.heap.size + 1 := by rw [← hw1]; simp
  rw [hsz1] at HX
  have hb2 := below_then hbw1 hbw2
  have HB2 := Lib.hid hb2
  have HVV := Lib.hid (hv.later hb2)
  have HK := Lib.hid (hk.later hb2)
  have HL := Lib.hid (hl.later hb2)
  have HM := Lib.hid (hm.later hb2)
  have HDD := Lib.hid (hd.later hb2)
  have HWR := Lib.hid hwr
  have HGL := Lib.hid hgl
  have HKL := Lib.hid hkl
  have HLN := Lib.hid hln
  have HDL := Lib.hid hdl
  clear hv hk hl hm hd hwr hgl hkl hln hdl hw1 hw2 hbw1 hbw2 bw1 bw2 hb2 hmm hqm hnm HS0 hsz1 hmn hqn hnn
  go_enter Tryz.func22, Tryz.ntmps22
  go_upto_region 1 with fail
  rw [Hw1.out, Hw2.out]
  have s0 := cell_of_box (bx_later (Below.refl w2.heap.size w2) HS.out) 0 rfl
  have s1 := cell_of_box (bx_later (Below.refl w2.heap.size w2) HS.out) 1 rfl
  have s2 := cell_of_box (bx_later (Below.refl w2.heap.size w2) HS.out) 2 rfl
  have s3 := cell_of_box (bx_later (Below.refl w2.heap.size w2) HS.out) 3 rfl
  have s4 := cell_of_box (bx_later (Below.refl w2.heap.size w2) HS.out) 4 rfl
  have p0 := cell_of_box (bx_later (Below.refl w2.heap.size w2) HX.out) 0 rfl
  have p1 := cell_of_box (bx_later (Below.refl w2.heap.size w2) HX.out) 1 rfl
  have p2 := cell_of_box (bx_later (Below.refl w2.heap.size w2) HX.out) 2 rfl
  have p3 := cell_of_box (bx_later (Below.refl w2.heap.size w2) HX.out) 3 rfl
  have p4 := cell_of_box (bx_later (Below.refl w2.heap.size w2) HX.out) 4 rfl
  have p5 := cell_of_box (bx_later (Below.refl w2.heap.size w2) HX.out) 5 rfl
  have p6 := cell_of_box (bx_later (Below.refl w2.heap.size w2) HX.out) 6 rfl
  have p7 := cell_of_box (bx_later (Below.refl w2.heap.size w2) HX.out) 7 rfl
  have p8 := cell_of_box (bx_later (Below.refl w2.heap.size w2) HX.out) 8 rfl
  have p9 := cell_of_box (bx_later (Below.refl w2.heap.size w2) HX.out) 9 rfl
  have p10 := cell_of_box (bx_later (Below.refl w2.heap.size w2) HX.out) 10 rfl
  cases h1 : inQ3 dev 1 64
  · have HI1 := Lib.hid h1
    have HRR : Hid (mayT line last l known dev seq time fm deps = false) := by show _ = _; unfold mayT; rw [if_pos h1]
    clear h1
    go_wp2_with fail
    refine wp_region_flow (by kernel_rfl) 27 [(2, ⟨fun v => v = .bool false, fun _ _ _ _ => True⟩), (7, ⟨fun v => v = .bool true, fun _ _ _ _ => True⟩), (13, ⟨fun v => v = .bool true, fun _ _ _ _ => True⟩), (21, ⟨fun v => v = .bool true, fun _ _ _ _ => True⟩)] (by kernel_rfl) ?_ ?_ ?_
    · intro x hx
      simp only [List.mem_cons, List.not_mem_nil, or_false] at hx
      rcases hx with rfl | rfl | rfl | rfl
      · exact ⟨_, rfl⟩
      · exact ⟨_, rfl⟩
      · exact ⟨_, rfl⟩
      · exact ⟨_, rfl⟩
    · intro x hx v lo hi w w' h hb
      simp only [List.mem_cons, List.not_mem_nil, or_false] at hx
      rcases hx with rfl | rfl | rfl | rfl
      · exact trivial
      · exact trivial
      · exact trivial
      · exact trivial
    · intro lo hi
      have kp0 := cell_regrown p0
      have kp1 := cell_regrown p1
      have kp2 := cell_regrown p2
      have kp3 := cell_regrown p3
      have kp4 := cell_regrown p4
      have kp5 := cell_regrown p5
      have kp6 := cell_regrown p6
      have kp7 := cell_regrown p7
      have kp8 := cell_regrown p8
      have kp9 := cell_regrown p9
      have kp10 := cell_regrown p10
      have ks0 := cell_regrown s0
      have ks1 := cell_regrown s1
      have ks2 := cell_regrown s2
      have ks3 := cell_regrown s3
      have ks4 := cell_regrown s4
      refine flowW_plain rfl ?_
      go_big_quiet_step (fail)
      refine wpQuiet_nil ?_
      refine flowW_plain rfl ?_
      go_big_quiet_step (fail)
      refine wpQuiet_nil ?_
      refine flowW_call rfl rfl ?_ ?_
      · intro W hW hF K hK
        clear kp0 kp1 kp2 kp3 kp4 kp5 kp6 kp7 kp8 kp9 kp10 ks0 ks1 ks2 ks3 ks4
        go_wp2_with fail
        refine (within_bk HI1.out _).mono ?_
        rintro e wq ⟨rfl, rfl⟩
        go_wp2_with fail
        exact hK _ _ rfl trivial (Below.refl _ _)
      rintro v rfl K hK
      go_simp
      refine hK _ ?_
      clear hK K
      refine flowW_plain rfl ?_
      go_big_quiet_step (fail)
      refine wpQuiet_nil ?_
      refine flowW_plain rfl ?_
      go_big_quiet_step (fail)
      refine wpQuiet_nil ?_
      refine flowW_skip rfl ?_
      go_big_quiet_step (fail)
      refine wpQuiet_nil ?_
      refine flowW_skip rfl ?_
      go_big_quiet_step (fail)
      refine wpQuiet_nil ?_
      refine flowW_skip rfl ?_
      go_big_quiet_step (fail)
      refine wpQuiet_nil ?_
      refine flowW_skip rfl ?_
      go_big_quiet_step (fail)
      refine wpQuiet_nil ?_
      refine flowW_plain rfl ?_
      go_big_quiet_step (fail)
      refine wpQuiet_nil ?_
      refine flowW_plain rfl ?_
      go_big_quiet_step (fail)
      refine wpQuiet_nil ?_
      refine flowW_skip rfl ?_
      go_big_quiet_step (fail)
      refine wpQuiet_nil ?_
      refine flowW_skip rfl ?_
      go_big_quiet_step (fail)
      refine wpQuiet_nil ?_
      refine flowW_skip rfl ?_
      go_big_quiet_step (fail)
      refine wpQuiet_nil ?_
      refine flowW_skip rfl ?_
      go_big_quiet_step (fail)
      refine wpQuiet_nil ?_
      refine flowW_plain rfl ?_
      go_big_quiet_step (fail)
      refine wpQuiet_nil ?_
      refine flowW_plain rfl ?_
      go_big_quiet_step (fail)
      refine wpQuiet_nil ?_
      refine flowW_skip rfl ?_
      go_big_quiet_step (fail)
      refine wpQuiet_nil ?_
      refine flowW_skip rfl ?_
      go_big_quiet_step (fail)
      refine wpQuiet_nil ?_
      refine flowW_skip rfl ?_
      go_big_quiet_step (fail)
      refine wpQuiet_nil ?_
      refine flowW_skip rfl ?_
      go_big_quiet_step (fail)
      refine wpQuiet_nil ?_
      refine flowW_skip rfl ?_
      go_big_quiet_step (fail)
      refine wpQuiet_nil ?_
      refine flowW_skip rfl ?_
      go_big_quiet_step (fail)
      refine wpQuiet_nil ?_
      refine flowW_skip rfl ?_
      go_big_quiet_step (fail)
      refine wpQuiet_nil ?_
      refine flowW_skip rfl ?_
      go_big_quiet_step (fail)
      refine wpQuiet_nil ?_
      refine flowW_skip rfl ?_
      go_big_quiet_step (fail)
      refine wpQuiet_nil ?_
      refine flowW_plain rfl ?_
      go_big_quiet_step (fail)
      refine wpQuiet_nil ?_
      refine flowW_end fun w5 hw5 hF hD => ?_
      clear kp0 kp1 kp2 kp3 kp4 kp5 kp6 kp7 kp8 kp9 kp10 ks0 ks1 ks2 ks3 ks4
      simp only [List.drop_succ_cons, List.drop_zero]
      clear hF hD p0 p1 p2 p3 p4 p5 p6 p7 p8 p9 p10 s0 s1 s2 s3 s4
      go_wp2_with fail
      go_ret
      exact ⟨ret_bool HRR.out.symm, below_then HB2.out hw5⟩
  have HI1 := Lib.hid h1
  clear h1
  cases h2 : inQ3 seq 1 1048576
  · have HI2 := Lib.hid h2
    have HRR : Hid (mayT line last l known dev seq time fm deps = false) := by show _ = _; unfold mayT; rw [HI1.out, h2]; rfl
    clear h2
    go_wp2_with fail
    refine wp_region_flow (by kernel_rfl) 27 [(2, ⟨fun v => v = .bool true, fun _ _ _ _ => True⟩), (7, ⟨fun v => v = .bool false, fun _ _ _ _ => True⟩), (13, ⟨fun v => v = .bool true, fun _ _ _ _ => True⟩), (21, ⟨fun v => v = .bool true, fun _ _ _ _ => True⟩)] (by kernel_rfl) ?_ ?_ ?_
    · intro x hx
      simp only [List.mem_cons, List.not_mem_nil, or_false] at hx
      rcases hx with rfl | rfl | rfl | rfl
      · exact ⟨_, rfl⟩
      · exact ⟨_, rfl⟩
      · exact ⟨_, rfl⟩
      · exact ⟨_, rfl⟩
    · intro x hx v lo hi w w' h hb
      simp only [List.mem_cons, List.not_mem_nil, or_false] at hx
      rcases hx with rfl | rfl | rfl | rfl
      · exact trivial
      · exact trivial
      · exact trivial
      · exact trivial
    · intro lo hi
      have kp0 := cell_regrown p0
      have kp1 := cell_regrown p1
      have kp2 := cell_regrown p2
      have kp3 := cell_regrown p3
      have kp4 := cell_regrown p4
      have kp5 := cell_regrown p5
      have kp6 := cell_regrown p6
      have kp7 := cell_regrown p7
      have kp8 := cell_regrown p8
      have kp9 := cell_regrown p9
      have kp10 := cell_regrown p10
      have ks0 := cell_regrown s0
      have ks1 := cell_regrown s1
      have ks2 := cell_regrown s2
      have ks3 := cell_regrown s3
      have ks4 := cell_regrown s4
      refine flowW_plain rfl ?_
      go_big_quiet_step (fail)
      refine wpQuiet_nil ?_
      refine flowW_plain rfl ?_
      go_big_quiet_step (fail)
      refine wpQuiet_nil ?_
      refine flowW_call rfl rfl ?_ ?_
      · intro W hW hF K hK
        clear kp0 kp1 kp2 kp3 kp4 kp5 kp6 kp7 kp8 kp9 kp10 ks0 ks1 ks2 ks3 ks4
        go_wp2_with fail
        refine (within_bk HI1.out _).mono ?_
        rintro e wq ⟨rfl, rfl⟩
        go_wp2_with fail
        exact hK _ _ rfl trivial (Below.refl _ _)
      rintro v rfl K hK
      go_simp
      refine hK _ ?_
      clear hK K
      refine flowW_plain rfl ?_
      go_big_quiet_step (fail)
      refine wpQuiet_nil ?_
      refine flowW_plain rfl ?_
      go_big_quiet_step (fail)
      refine wpQuiet_nil ?_
      refine flowW_plain rfl ?_
      go_big_quiet_step (fail)
      refine wpQuiet_nil ?_
      refine flowW_plain rfl ?_
      go_big_quiet_step (fail)
      refine wpQuiet_nil ?_
      refine flowW_call rfl rfl ?_ ?_
      · intro W hW hF K hK
        clear kp0 kp1 kp2 kp3 kp4 kp5 kp6 kp7 kp8 kp9 kp10 ks0 ks1 ks2 ks3 ks4
        go_wp2_with fail
        refine (within_bk HI2.out _).mono ?_
        rintro e wq ⟨rfl, rfl⟩
        go_wp2_with fail
        exact hK _ _ rfl trivial (Below.refl _ _)
      rintro v rfl K hK
      go_simp
      refine hK _ ?_
      clear hK K
      refine flowW_plain rfl ?_
      go_big_quiet_step (fail)
      refine wpQuiet_nil ?_
      refine flowW_plain rfl ?_
      go_big_quiet_step (fail)
      refine wpQuiet_nil ?_
      refine flowW_plain rfl ?_
      go_big_quiet_step (fail)
      refine wpQuiet_nil ?_
      refine flowW_skip rfl ?_
      go_big_quiet_step (fail)
      refine wpQuiet_nil ?_
      refine flowW_skip rfl ?_
      go_big_quiet_step (fail)
      refine wpQuiet_nil ?_
      refine flowW_skip rfl ?_
      go_big_quiet_step (fail)
      refine wpQuiet_nil ?_
      refine flowW_skip rfl ?_
      go_big_quiet_step (fail)
      refine wpQuiet_nil ?_
      refine flowW_plain rfl ?_
      go_big_quiet_step (fail)
      refine wpQuiet_nil ?_
      refine flowW_plain rfl ?_
      go_big_quiet_step (fail)
      refine wpQuiet_nil ?_
      refine flowW_skip rfl ?_
      go_big_quiet_step (fail)
      refine wpQuiet_nil ?_
      refine flowW_skip rfl ?_
      go_big_quiet_step (fail)
      refine wpQuiet_nil ?_
      refine flowW_skip rfl ?_
      go_big_quiet_step (fail)
      refine wpQuiet_nil ?_
      refine flowW_skip rfl ?_
      go_big_quiet_step (fail)
      refine wpQuiet_nil ?_
      refine flowW_skip rfl ?_
      go_big_quiet_step (fail)
      refine wpQuiet_nil ?_
      refine flowW_skip rfl ?_
      go_big_quiet_step (fail)
      refine wpQuiet_nil ?_
      refine flowW_skip rfl ?_
      go_big_quiet_step (fail)
      refine wpQuiet_nil ?_
      refine flowW_skip rfl ?_
      go_big_quiet_step (fail)
      refine wpQuiet_nil ?_
      refine flowW_skip rfl ?_
      go_big_quiet_step (fail)
      refine wpQuiet_nil ?_
      refine flowW_plain rfl ?_
      go_big_quiet_step (fail)
      refine wpQuiet_nil ?_
      refine flowW_end fun w5 hw5 hF hD => ?_
      clear kp0 kp1 kp2 kp3 kp4 kp5 kp6 kp7 kp8 kp9 kp10 ks0 ks1 ks2 ks3 ks4
      simp only [List.drop_succ_cons, List.drop_zero]
      clear hF hD p0 p1 p2 p3 p4 p5 p6 p7 p8 p9 p10 s0 s1 s2 s3 s4
      go_wp2_with fail
      go_ret
      exact ⟨ret_bool HRR.out.symm, below_then HB2.out hw5⟩
  have HI2 := Lib.hid h2
  have hsq : 1 ≤ seq ∧ seq ≤ 1048576 := inQ3_bd h2
  obtain ⟨hs1, hs2⟩ := hsq
  clear h2
  cases h3 : rightVec deps
  · have HRV := Lib.hid h3
    have HRR : Hid (mayT line last l known dev seq time fm deps = false) := by show _ = _; unfold mayT; rw [HI1.out, HI2.out, h3]; rfl
    clear h3
    go_wp2_with fail
    refine wp_region_flow (by kernel_rfl) 27 [(2, ⟨fun v => v = .bool true, fun _ _ _ _ => True⟩), (7, ⟨fun v => v = .bool true, fun _ _ _ _ => True⟩), (13, ⟨fun v => v = .bool false, fun _ _ _ _ => True⟩), (21, ⟨fun v => v = .bool true, fun _ _ _ _ => True⟩)] (by kernel_rfl) ?_ ?_ ?_
    · intro x hx
      simp only [List.mem_cons, List.not_mem_nil, or_false] at hx
      rcases hx with rfl | rfl | rfl | rfl
      · exact ⟨_, rfl⟩
      · exact ⟨_, rfl⟩
      · exact ⟨_, rfl⟩
      · exact ⟨_, rfl⟩
    · intro x hx v lo hi w w' h hb
      simp only [List.mem_cons, List.not_mem_nil, or_false] at hx
      rcases hx with rfl | rfl | rfl | rfl
      · exact trivial
      · exact trivial
      · exact trivial
      · exact trivial
    · intro lo hi
      have kp0 := cell_regrown p0
      have kp1 := cell_regrown p1
      have kp2 := cell_regrown p2
      have kp3 := cell_regrown p3
      have kp4 := cell_regrown p4
      have kp5 := cell_regrown p5
      have kp6 := cell_regrown p6
      have kp7 := cell_regrown p7
      have kp8 := cell_regrown p8
      have kp9 := cell_regrown p9
      have kp10 := cell_regrown p10
      have ks0 := cell_regrown s0
      have ks1 := cell_regrown s1
      have ks2 := cell_regrown s2
      have ks3 := cell_regrown s3
      have ks4 := cell_regrown s4
      refine flowW_plain rfl ?_
      go_big_quiet_step (fail)
      refine wpQuiet_nil ?_
      refine flowW_plain rfl ?_
      go_big_quiet_step (fail)
      refine wpQuiet_nil ?_
      refine flowW_call rfl rfl ?_ ?_
      · intro W hW hF K hK
        clear kp0 kp1 kp2 kp3 kp4 kp5 kp6 kp7 kp8 kp9 kp10 ks0 ks1 ks2 ks3 ks4
        go_wp2_with fail
        refine (within_bk HI1.out _).mono ?_
        rintro e wq ⟨rfl, rfl⟩
        go_wp2_with fail
        exact hK _ _ rfl trivial (Below.refl _ _)
      rintro v rfl K hK
      go_simp
      refine hK _ ?_
      clear hK K
      refine flowW_plain rfl ?_
      go_big_quiet_step (fail)
      refine wpQuiet_nil ?_
      refine flowW_plain rfl ?_
      go_big_quiet_step (fail)
      refine wpQuiet_nil ?_
      refine flowW_plain rfl ?_
      go_big_quiet_step (fail)
      refine wpQuiet_nil ?_
      refine flowW_plain rfl ?_
      go_big_quiet_step (fail)
      refine wpQuiet_nil ?_
      refine flowW_call rfl rfl ?_ ?_
      · intro W hW hF K hK
        clear kp0 kp1 kp2 kp3 kp4 kp5 kp6 kp7 kp8 kp9 kp10 ks0 ks1 ks2 ks3 ks4
        go_wp2_with fail
        refine (within_bk HI2.out _).mono ?_
        rintro e wq ⟨rfl, rfl⟩
        go_wp2_with fail
        exact hK _ _ rfl trivial (Below.refl _ _)
      rintro v rfl K hK
      go_simp
      refine hK _ ?_
      clear hK K
      refine flowW_plain rfl ?_
      go_big_quiet_step (fail)
      refine wpQuiet_nil ?_
      refine flowW_plain rfl ?_
      go_big_quiet_step (fail)
      refine wpQuiet_nil ?_
      refine flowW_plain rfl ?_
      go_big_quiet_step (fail)
      refine wpQuiet_nil ?_
      refine flowW_plain rfl ?_
      go_big_quiet_step (fail)
      refine wpQuiet_nil ?_
      refine flowW_plain rfl ?_
      go_big_quiet_step (fail)
      refine wpQuiet_nil ?_
      refine flowW_call rfl rfl ?_ ?_
      · intro W hW hF K hK
        clear kp0 kp1 kp2 kp3 kp4 kp5 kp6 kp7 kp8 kp9 kp10 ks0 ks1 ks2 ks3 ks4
        go_wp2_with fail
        refine (vecRight_b HRV.out HDL.out (HDD.out.later hW)).mono ?_
        rintro e wq ⟨rfl, rfl⟩
        go_wp2_with fail
        exact hK _ _ rfl trivial (Below.refl _ _)
      rintro v rfl K hK
      go_simp
      refine hK _ ?_
      clear hK K
      refine flowW_plain rfl ?_
      go_big_quiet_step (fail)
      refine wpQuiet_nil ?_
      refine flowW_plain rfl ?_
      go_big_quiet_step (fail)
      refine wpQuiet_nil ?_
      refine flowW_plain rfl ?_
      go_big_quiet_step (fail)
      refine wpQuiet_nil ?_
      refine flowW_skip rfl ?_
      go_big_quiet_step (fail)
      refine wpQuiet_nil ?_
      refine flowW_skip rfl ?_
      go_big_quiet_step (fail)
      refine wpQuiet_nil ?_
      refine flowW_skip rfl ?_
      go_big_quiet_step (fail)
      refine wpQuiet_nil ?_
      refine flowW_skip rfl ?_
      go_big_quiet_step (fail)
      refine wpQuiet_nil ?_
      refine flowW_skip rfl ?_
      go_big_quiet_step (fail)
      refine wpQuiet_nil ?_
      refine flowW_skip rfl ?_
      go_big_quiet_step (fail)
      refine wpQuiet_nil ?_
      refine flowW_skip rfl ?_
      go_big_quiet_step (fail)
      refine wpQuiet_nil ?_
      refine flowW_skip rfl ?_
      go_big_quiet_step (fail)
      refine wpQuiet_nil ?_
      refine flowW_skip rfl ?_
      go_big_quiet_step (fail)
      refine wpQuiet_nil ?_
      refine flowW_plain rfl ?_
      go_big_quiet_step (fail)
      refine wpQuiet_nil ?_
      refine flowW_end fun w5 hw5 hF hD => ?_
      clear kp0 kp1 kp2 kp3 kp4 kp5 kp6 kp7 kp8 kp9 kp10 ks0 ks1 ks2 ks3 ks4
      simp only [List.drop_succ_cons, List.drop_zero]
      clear hF hD p0 p1 p2 p3 p4 p5 p6 p7 p8 p9 p10 s0 s1 s2 s3 s4
      go_wp2_with fail
      go_ret
      exact ⟨ret_bool HRR.out.symm, below_then HB2.out hw5⟩
  have HRV := Lib.hid h3
  clear h3
  obtain ⟨f, hf⟩ : ∃ f, ofV deps dev = f := ⟨_, rfl⟩
  obtain ⟨z, hz⟩ : ∃ z, IntKind.i64.wrap (seq - 1) = z := ⟨_, rfl⟩
  have HZ : Hid (z = seq - 1) := by show _ = _; rw [← hz]; exact IntWalk.i64_in _ (by omega)
  have HF := Lib.hid hf
  clear hf
  cases h4 : (f == z)
  · have HRR : Hid (mayT line last l known dev seq time fm deps = false) := by
      show _ = _
      unfold mayT
      rw [HI1.out, HI2.out, HRV.out, HF.out, ← HZ.out, if_neg (by simp), if_neg (by simp), if_neg (by simp), if_pos (by rw [bne, h4]; rfl)]
    go_wp2_with fail
    refine wp_region_flow (by kernel_rfl) 27 [(2, ⟨fun v => v = .bool true, fun _ _ _ _ => True⟩), (7, ⟨fun v => v = .bool true, fun _ _ _ _ => True⟩), (13, ⟨fun v => v = .bool true, fun _ _ _ _ => True⟩), (21, ⟨fun v => v = .int .i64 f, fun _ _ _ _ => True⟩)] (by kernel_rfl) ?_ ?_ ?_
    · intro x hx
      simp only [List.mem_cons, List.not_mem_nil, or_false] at hx
      rcases hx with rfl | rfl | rfl | rfl
      · exact ⟨_, rfl⟩
      · exact ⟨_, rfl⟩
      · exact ⟨_, rfl⟩
      · exact ⟨_, rfl⟩
    · intro x hx v lo hi w w' h hb
      simp only [List.mem_cons, List.not_mem_nil, or_false] at hx
      rcases hx with rfl | rfl | rfl | rfl
      · exact trivial
      · exact trivial
      · exact trivial
      · exact trivial
    · intro lo hi
      have kp0 := cell_regrown p0
      have kp1 := cell_regrown p1
      have kp2 := cell_regrown p2
      have kp3 := cell_regrown p3
      have kp4 := cell_regrown p4
      have kp5 := cell_regrown p5
      have kp6 := cell_regrown p6
      have kp7 := cell_regrown p7
      have kp8 := cell_regrown p8
      have kp9 := cell_regrown p9
      have kp10 := cell_regrown p10
      have ks0 := cell_regrown s0
      have ks1 := cell_regrown s1
      have ks2 := cell_regrown s2
      have ks3 := cell_regrown s3
      have ks4 := cell_regrown s4
      refine flowW_plain rfl ?_
      go_big_quiet_step (fail)
      refine wpQuiet_nil ?_
      refine flowW_plain rfl ?_
      go_big_quiet_step (fail)
      refine wpQuiet_nil ?_
      refine flowW_call rfl rfl ?_ ?_
      · intro W hW hF K hK
        clear kp0 kp1 kp2 kp3 kp4 kp5 kp6 kp7 kp8 kp9 kp10 ks0 ks1 ks2 ks3 ks4
        go_wp2_with fail
        refine (within_bk HI1.out _).mono ?_
        rintro e wq ⟨rfl, rfl⟩
        go_wp2_with fail
        exact hK _ _ rfl trivial (Below.refl _ _)
      rintro v rfl K hK
      go_simp
      refine hK _ ?_
      clear hK K
      refine flowW_plain rfl ?_
      go_big_quiet_step (fail)
      refine wpQuiet_nil ?_
      refine flowW_plain rfl ?_
      go_big_quiet_step (fail)
      refine wpQuiet_nil ?_
      refine flowW_plain rfl ?_
      go_big_quiet_step (fail)
      refine wpQuiet_nil ?_
      refine flowW_plain rfl ?_
      go_big_quiet_step (fail)
      refine wpQuiet_nil ?_
      refine flowW_call rfl rfl ?_ ?_
      · intro W hW hF K hK
        clear kp0 kp1 kp2 kp3 kp4 kp5 kp6 kp7 kp8 kp9 kp10 ks0 ks1 ks2 ks3 ks4
        go_wp2_with fail
        refine (within_bk HI2.out _).mono ?_
        rintro e wq ⟨rfl, rfl⟩
        go_wp2_with fail
        exact hK _ _ rfl trivial (Below.refl _ _)
      rintro v rfl K hK
      go_simp
      refine hK _ ?_
      clear hK K
      refine flowW_plain rfl ?_
      go_big_quiet_step (fail)
      refine wpQuiet_nil ?_
      refine flowW_plain rfl ?_
      go_big_quiet_step (fail)
      refine wpQuiet_nil ?_
      refine flowW_plain rfl ?_
      go_big_quiet_step (fail)
      refine wpQuiet_nil ?_
      refine flowW_plain rfl ?_
      go_big_quiet_step (fail)
      refine wpQuiet_nil ?_
      refine flowW_plain rfl ?_
      go_big_quiet_step (fail)
      refine wpQuiet_nil ?_
      refine flowW_call rfl rfl ?_ ?_
      · intro W hW hF K hK
        clear kp0 kp1 kp2 kp3 kp4 kp5 kp6 kp7 kp8 kp9 kp10 ks0 ks1 ks2 ks3 ks4
        go_wp2_with fail
        refine (vecRight_b HRV.out HDL.out (HDD.out.later hW)).mono ?_
        rintro e wq ⟨rfl, rfl⟩
        go_wp2_with fail
        exact hK _ _ rfl trivial (Below.refl _ _)
      rintro v rfl K hK
      go_simp
      refine hK _ ?_
      clear hK K
      refine flowW_plain rfl ?_
      go_big_quiet_step (fail)
      refine wpQuiet_nil ?_
      refine flowW_plain rfl ?_
      go_big_quiet_step (fail)
      refine wpQuiet_nil ?_
      refine flowW_plain rfl ?_
      go_big_quiet_step (fail)
      refine wpQuiet_nil ?_
      refine flowW_plain rfl ?_
      go_big_quiet_step (fail)
      refine wpQuiet_nil ?_
      refine flowW_plain rfl ?_
      go_big_quiet_step (fail)
      refine wpQuiet_nil ?_
      refine flowW_plain rfl ?_
      go_big_quiet_step (fail)
      refine wpQuiet_nil ?_
      refine flowW_plain rfl ?_
      go_big_quiet_step (fail)
      refine wpQuiet_nil ?_
      refine flowW_call rfl rfl ?_ ?_
      · intro W hW hF K hK
        clear kp0 kp1 kp2 kp3 kp4 kp5 kp6 kp7 kp8 kp9 kp10 ks0 ks1 ks2 ks3 ks4
        go_wp2_with fail
        refine (ofV_f HDL.out HF.out (HDD.out.later hW)).mono ?_
        rintro e wq ⟨rfl, rfl⟩
        go_wp2_with fail
        exact hK _ _ rfl trivial (Below.refl _ _)
      rintro v rfl K hK
      go_simp
      refine hK _ ?_
      clear hK K
      refine flowW_plain rfl ?_
      go_big_quiet_step (fail)
      refine wpQuiet_nil ?_
      refine flowW_plain rfl ?_
      go_big_quiet_step (fail)
      refine wpQuiet_nil ?_
      refine flowW_plain rfl ?_
      go_big_quiet_step (fail)
      refine wpQuiet_nil ?_
      refine flowW_plain rfl ?_
      go_big_quiet_step (fail)
      refine wpQuiet_nil ?_
      refine flowW_plain rfl ?_
      go_big_quiet_step (fail)
      refine wpQuiet_nil ?_
      refine flowW_end fun w5 hw5 hF hD => ?_
      clear kp0 kp1 kp2 kp3 kp4 kp5 kp6 kp7 kp8 kp9 kp10 ks0 ks1 ks2 ks3 ks4
      simp only [List.drop_succ_cons, List.drop_zero]
      clear hF hD p0 p1 p2 p3 p4 p5 p6 p7 p8 p9 p10 s0 s1 s2 s3 s4
      go_wp2_with fail
      go_ret
      exact ⟨ret_bool HRR.out.symm, below_then HB2.out hw5⟩
  have hfz : f = seq - 1 := (eq_of_beq h4).trans HZ.out
  have HRR0 : Hid (mayT line last l known dev seq time fm deps = if ofV line dev < seq then aboveT line last l known dev seq time deps else !fm && uptoB deps line) := by
    show _ = _
    unfold mayT
    rw [HI1.out, HI2.out, HRV.out, HF.out, hfz, if_neg (by simp), if_neg (by simp), if_neg (by simp), if_neg (by simp)]
  clear hfz
  have hne : (f != z) = false := by rw [bne, h4]; rfl
  clear h4
  go_wp2_with fail
  refine wp_region_flow (by kernel_rfl) 27 [(2, ⟨fun v => v = .bool true, fun _ _ _ _ => True⟩), (7, ⟨fun v => v = .bool true, fun _ _ _ _ => True⟩), (13, ⟨fun v => v = .bool true, fun _ _ _ _ => True⟩), (21, ⟨fun v => v = .int .i64 f, fun _ _ _ _ => True⟩)] (by kernel_rfl) ?_ ?_ ?_
  · intro x hx
    simp only [List.mem_cons, List.not_mem_nil, or_false] at hx
    rcases hx with rfl | rfl | rfl | rfl
    · exact ⟨_, rfl⟩
    · exact ⟨_, rfl⟩
    · exact ⟨_, rfl⟩
    · exact ⟨_, rfl⟩
  · intro x hx v lo hi w w' h hb
    simp only [List.mem_cons, List.not_mem_nil, or_false] at hx
    rcases hx with rfl | rfl | rfl | rfl
    · exact trivial
    · exact trivial
    · exact trivial
    · exact trivial
  · intro lo hi
    have kp0 := cell_regrown p0
    have kp1 := cell_regrown p1
    have kp2 := cell_regrown p2
    have kp3 := cell_regrown p3
    have kp4 := cell_regrown p4
    have kp5 := cell_regrown p5
    have kp6 := cell_regrown p6
    have kp7 := cell_regrown p7
    have kp8 := cell_regrown p8
    have kp9 := cell_regrown p9
    have kp10 := cell_regrown p10
    have ks0 := cell_regrown s0
    have ks1 := cell_regrown s1
    have ks2 := cell_regrown s2
    have ks3 := cell_regrown s3
    have ks4 := cell_regrown s4
    refine flowW_plain rfl ?_
    go_big_quiet_step (fail)
    refine wpQuiet_nil ?_
    refine flowW_plain rfl ?_
    go_big_quiet_step (fail)
    refine wpQuiet_nil ?_
    refine flowW_call rfl rfl ?_ ?_
    · intro W hW hF K hK
      clear kp0 kp1 kp2 kp3 kp4 kp5 kp6 kp7 kp8 kp9 kp10 ks0 ks1 ks2 ks3 ks4
      go_wp2_with fail
      refine (within_bk HI1.out _).mono ?_
      rintro e wq ⟨rfl, rfl⟩
      go_wp2_with fail
      exact hK _ _ rfl trivial (Below.refl _ _)
    rintro v rfl K hK
    go_simp
    refine hK _ ?_
    clear hK K
    refine flowW_plain rfl ?_
    go_big_quiet_step (fail)
    refine wpQuiet_nil ?_
    refine flowW_plain rfl ?_
    go_big_quiet_step (fail)
    refine wpQuiet_nil ?_
    refine flowW_plain rfl ?_
    go_big_quiet_step (fail)
    refine wpQuiet_nil ?_
    refine flowW_plain rfl ?_
    go_big_quiet_step (fail)
    refine wpQuiet_nil ?_
    refine flowW_call rfl rfl ?_ ?_
    · intro W hW hF K hK
      clear kp0 kp1 kp2 kp3 kp4 kp5 kp6 kp7 kp8 kp9 kp10 ks0 ks1 ks2 ks3 ks4
      go_wp2_with fail
      refine (within_bk HI2.out _).mono ?_
      rintro e wq ⟨rfl, rfl⟩
      go_wp2_with fail
      exact hK _ _ rfl trivial (Below.refl _ _)
    rintro v rfl K hK
    go_simp
    refine hK _ ?_
    clear hK K
    refine flowW_plain rfl ?_
    go_big_quiet_step (fail)
    refine wpQuiet_nil ?_
    refine flowW_plain rfl ?_
    go_big_quiet_step (fail)
    refine wpQuiet_nil ?_
    refine flowW_plain rfl ?_
    go_big_quiet_step (fail)
    refine wpQuiet_nil ?_
    refine flowW_plain rfl ?_
    go_big_quiet_step (fail)
    refine wpQuiet_nil ?_
    refine flowW_plain rfl ?_
    go_big_quiet_step (fail)
    refine wpQuiet_nil ?_
    refine flowW_call rfl rfl ?_ ?_
    · intro W hW hF K hK
      clear kp0 kp1 kp2 kp3 kp4 kp5 kp6 kp7 kp8 kp9 kp10 ks0 ks1 ks2 ks3 ks4
      go_wp2_with fail
      refine (vecRight_b HRV.out HDL.out (HDD.out.later hW)).mono ?_
      rintro e wq ⟨rfl, rfl⟩
      go_wp2_with fail
      exact hK _ _ rfl trivial (Below.refl _ _)
    rintro v rfl K hK
    go_simp
    refine hK _ ?_
    clear hK K
    refine flowW_plain rfl ?_
    go_big_quiet_step (fail)
    refine wpQuiet_nil ?_
    refine flowW_plain rfl ?_
    go_big_quiet_step (fail)
    refine wpQuiet_nil ?_
    refine flowW_plain rfl ?_
    go_big_quiet_step (fail)
    refine wpQuiet_nil ?_
    refine flowW_plain rfl ?_
    go_big_quiet_step (fail)
    refine wpQuiet_nil ?_
    refine flowW_plain rfl ?_
    go_big_quiet_step (fail)
    refine wpQuiet_nil ?_
    refine flowW_plain rfl ?_
    go_big_quiet_step (fail)
    refine wpQuiet_nil ?_
    refine flowW_plain rfl ?_
    go_big_quiet_step (fail)
    refine wpQuiet_nil ?_
    refine flowW_call rfl rfl ?_ ?_
    · intro W hW hF K hK
      clear kp0 kp1 kp2 kp3 kp4 kp5 kp6 kp7 kp8 kp9 kp10 ks0 ks1 ks2 ks3 ks4
      go_wp2_with fail
      refine (ofV_f HDL.out HF.out (HDD.out.later hW)).mono ?_
      rintro e wq ⟨rfl, rfl⟩
      go_wp2_with fail
      exact hK _ _ rfl trivial (Below.refl _ _)
    rintro v rfl K hK
    go_simp
    refine hK _ ?_
    clear hK K
    refine flowW_plain rfl ?_
    go_big_quiet_step (fail)
    refine wpQuiet_nil ?_
    refine flowW_plain rfl ?_
    go_big_quiet_step (fail)
    refine wpQuiet_nil ?_
    refine flowW_plain rfl ?_
    go_big_quiet_step (fail)
    refine wpQuiet_nil ?_
    refine flowW_plain rfl ?_
    go_big_quiet_step (fail)
    refine wpQuiet_nil ?_
    refine flowW_plain rfl ?_
    go_big_quiet_step (fail)
    refine wpQuiet_nil ?_
    refine flowW_end fun w5 hw5 hF hD => ?_
    clear kp0 kp1 kp2 kp3 kp4 kp5 kp6 kp7 kp8 kp9 kp10 ks0 ks1 ks2 ks3 ks4
    simp only [List.drop_succ_cons, List.drop_zero]
    clear hF hD hz p0 p1 p2 p3 p4 p5 p6 p7 p8 p9 p10 s0 s1 s2 s3 s4 hne
    have HB5 := Lib.hid hw5
    clear hw5
    have s0 := cell_of_box (bx_later HB5.out HS.out) 0 rfl
    have s1 := cell_of_box (bx_later HB5.out HS.out) 1 rfl
    have s2 := cell_of_box (bx_later HB5.out HS.out) 2 rfl
    have s3 := cell_of_box (bx_later HB5.out HS.out) 3 rfl
    have s4 := cell_of_box (bx_later HB5.out HS.out) 4 rfl
    have p0 := cell_of_box (bx_later HB5.out HX.out) 0 rfl
    have p1 := cell_of_box (bx_later HB5.out HX.out) 1 rfl
    have p2 := cell_of_box (bx_later HB5.out HX.out) 2 rfl
    have p3 := cell_of_box (bx_later HB5.out HX.out) 3 rfl
    have p4 := cell_of_box (bx_later HB5.out HX.out) 4 rfl
    have p5 := cell_of_box (bx_later HB5.out HX.out) 5 rfl
    have p6 := cell_of_box (bx_later HB5.out HX.out) 6 rfl
    have p7 := cell_of_box (bx_later HB5.out HX.out) 7 rfl
    have p8 := cell_of_box (bx_later HB5.out HX.out) 8 rfl
    have p9 := cell_of_box (bx_later HB5.out HX.out) 9 rfl
    have p10 := cell_of_box (bx_later HB5.out HX.out) 10 rfl
    obtain ⟨f2, hf2⟩ : ∃ f2, ofV line dev = f2 := ⟨_, rfl⟩
    rw [hf2] at HRR0
    have HF2 := Lib.hid hf2
    clear hf2
    by_cases hlo : f2 < seq
    · have hlo2 : decide (f2 < seq) = true := decide_eq_true hlo
      have HRR1 : Hid (mayT line last l known dev seq time fm deps = aboveT line last l known dev seq time deps) := HRR0.out.trans (if_pos hlo)
      go_wp2_with fail
      refine wp_region_flow (by kernel_rfl) 8 [(6, ⟨fun v => v = .int .i64 f2, fun _ _ _ _ => True⟩)] (by kernel_rfl) ?_ ?_ ?_
      · intro x hx
        simp only [List.mem_cons, List.not_mem_nil, or_false] at hx
        subst hx
        exact ⟨_, rfl⟩
      · intro x hx v lo hi w w' h hb
        simp only [List.mem_cons, List.not_mem_nil, or_false] at hx
        subst hx
        exact trivial
      · intro lo hi
        have kp0 := cell_regrown p0
        have kp1 := cell_regrown p1
        have kp2 := cell_regrown p2
        have kp3 := cell_regrown p3
        have kp4 := cell_regrown p4
        have kp5 := cell_regrown p5
        have kp6 := cell_regrown p6
        have kp7 := cell_regrown p7
        have kp8 := cell_regrown p8
        have kp9 := cell_regrown p9
        have kp10 := cell_regrown p10
        have ks0 := cell_regrown s0
        have ks1 := cell_regrown s1
        have ks2 := cell_regrown s2
        have ks3 := cell_regrown s3
        have ks4 := cell_regrown s4
        refine flowW_plain rfl ?_
        go_big_quiet_step (fail)
        refine wpQuiet_nil ?_
        refine flowW_plain rfl ?_
        go_big_quiet_step (fail)
        refine wpQuiet_nil ?_
        refine flowW_plain rfl ?_
        go_big_quiet_step (fail)
        refine wpQuiet_nil ?_
        refine flowW_plain rfl ?_
        go_big_quiet_step (fail)
        refine wpQuiet_nil ?_
        refine flowW_plain rfl ?_
        go_big_quiet_step (fail)
        refine wpQuiet_nil ?_
        refine flowW_plain rfl ?_
        go_big_quiet_step (fail)
        refine wpQuiet_nil ?_
        refine flowW_call rfl rfl ?_ ?_
        · intro W hW hF K hK
          clear kp0 kp1 kp2 kp3 kp4 kp5 kp6 kp7 kp8 kp9 kp10 ks0 ks1 ks2 ks3 ks4
          go_wp2_with fail
          refine (ofV_f HGL.out HF2.out (HVV.out.later (below_then HB5.out hW))).mono ?_
          rintro e wq ⟨rfl, rfl⟩
          go_wp2_with fail
          exact hK _ _ rfl trivial (Below.refl _ _)
        rintro v rfl K hK
        go_simp
        refine hK _ ?_
        clear hK K
        refine flowW_plain rfl ?_
        go_big_quiet_step (fail)
        refine wpQuiet_nil ?_
        refine flowW_end fun w6 hw6 hF hD => ?_
        clear kp0 kp1 kp2 kp3 kp4 kp5 kp6 kp7 kp8 kp9 kp10 ks0 ks1 ks2 ks3 ks4
        simp only [List.drop_succ_cons, List.drop_zero]
        clear hF hD p0 p1 p2 p3 p4 p5 p6 p7 p8 p9 p10 s0 s1 s2 s3 s4
        have HB6 := Lib.hid (below_then HB5.out hw6)
        clear hw6
        have s0 := cell_of_box (bx_later HB6.out HS.out) 0 rfl
        have s1 := cell_of_box (bx_later HB6.out HS.out) 1 rfl
        have s2 := cell_of_box (bx_later HB6.out HS.out) 2 rfl
        have s3 := cell_of_box (bx_later HB6.out HS.out) 3 rfl
        have s4 := cell_of_box (bx_later HB6.out HS.out) 4 rfl
        have p0 := cell_of_box (bx_later HB6.out HX.out) 0 rfl
        have p1 := cell_of_box (bx_later HB6.out HX.out) 1 rfl
        have p2 := cell_of_box (bx_later HB6.out HX.out) 2 rfl
        have p3 := cell_of_box (bx_later HB6.out HX.out) 3 rfl
        have p4 := cell_of_box (bx_later HB6.out HX.out) 4 rfl
        have p5 := cell_of_box (bx_later HB6.out HX.out) 5 rfl
        have p6 := cell_of_box (bx_later HB6.out HX.out) 6 rfl
        have p7 := cell_of_box (bx_later HB6.out HX.out) 7 rfl
        have p8 := cell_of_box (bx_later HB6.out HX.out) 8 rfl
        have p9 := cell_of_box (bx_later HB6.out HX.out) 9 rfl
        have p10 := cell_of_box (bx_later HB6.out HX.out) 10 rfl
        go_wp2_with fail
        refine (above_m HGL.out HKL.out HLN.out HDL.out (HVV.out.later HB6.out) (HK.out.later HB6.out) (HL.out.later HB6.out) (HM.out.later HB6.out) (HDD.out.later HB6.out) HWR.out hs2 (HF2.out.symm ▸ hlo)).mono ?_
        rintro e w7 ⟨rfl, hb7⟩
        have HB7 := Lib.hid (below_then HB6.out hb7)
        clear hb7 p0 p1 p2 p3 p4 p5 p6 p7 p8 p9 p10 s0 s1 s2 s3 s4
        go_wp2_with fail
        go_ret
        exact ⟨ret_bool HRR1.out.symm, below_then HB2.out HB7.out⟩
    have hlo2 : decide (f2 < seq) = false := decide_eq_false hlo
    have HRR1 : Hid (mayT line last l known dev seq time fm deps = (!fm && uptoB deps line)) := HRR0.out.trans (if_neg hlo)
    go_wp2_with fail
    refine wp_region_flow (by kernel_rfl) 8 [(6, ⟨fun v => v = .int .i64 f2, fun _ _ _ _ => True⟩)] (by kernel_rfl) ?_ ?_ ?_
    · intro x hx
      simp only [List.mem_cons, List.not_mem_nil, or_false] at hx
      subst hx
      exact ⟨_, rfl⟩
    · intro x hx v lo hi w w' h hb
      simp only [List.mem_cons, List.not_mem_nil, or_false] at hx
      subst hx
      exact trivial
    · intro lo hi
      have kp0 := cell_regrown p0
      have kp1 := cell_regrown p1
      have kp2 := cell_regrown p2
      have kp3 := cell_regrown p3
      have kp4 := cell_regrown p4
      have kp5 := cell_regrown p5
      have kp6 := cell_regrown p6
      have kp7 := cell_regrown p7
      have kp8 := cell_regrown p8
      have kp9 := cell_regrown p9
      have kp10 := cell_regrown p10
      have ks0 := cell_regrown s0
      have ks1 := cell_regrown s1
      have ks2 := cell_regrown s2
      have ks3 := cell_regrown s3
      have ks4 := cell_regrown s4
      refine flowW_plain rfl ?_
      go_big_quiet_step (fail)
      refine wpQuiet_nil ?_
      refine flowW_plain rfl ?_
      go_big_quiet_step (fail)
      refine wpQuiet_nil ?_
      refine flowW_plain rfl ?_
      go_big_quiet_step (fail)
      refine wpQuiet_nil ?_
      refine flowW_plain rfl ?_
      go_big_quiet_step (fail)
      refine wpQuiet_nil ?_
      refine flowW_plain rfl ?_
      go_big_quiet_step (fail)
      refine wpQuiet_nil ?_
      refine flowW_plain rfl ?_
      go_big_quiet_step (fail)
      refine wpQuiet_nil ?_
      refine flowW_call rfl rfl ?_ ?_
      · intro W hW hF K hK
        clear kp0 kp1 kp2 kp3 kp4 kp5 kp6 kp7 kp8 kp9 kp10 ks0 ks1 ks2 ks3 ks4
        go_wp2_with fail
        refine (ofV_f HGL.out HF2.out (HVV.out.later (below_then HB5.out hW))).mono ?_
        rintro e wq ⟨rfl, rfl⟩
        go_wp2_with fail
        exact hK _ _ rfl trivial (Below.refl _ _)
      rintro v rfl K hK
      go_simp
      refine hK _ ?_
      clear hK K
      refine flowW_plain rfl ?_
      go_big_quiet_step (fail)
      refine wpQuiet_nil ?_
      refine flowW_end fun w6 hw6 hF hD => ?_
      clear kp0 kp1 kp2 kp3 kp4 kp5 kp6 kp7 kp8 kp9 kp10 ks0 ks1 ks2 ks3 ks4
      simp only [List.drop_succ_cons, List.drop_zero]
      clear hF hD p0 p1 p2 p3 p4 p5 p6 p7 p8 p9 p10 s0 s1 s2 s3 s4
      have HB6 := Lib.hid (below_then HB5.out hw6)
      clear hw6
      have s0 := cell_of_box (bx_later HB6.out HS.out) 0 rfl
      have s1 := cell_of_box (bx_later HB6.out HS.out) 1 rfl
      have s2 := cell_of_box (bx_later HB6.out HS.out) 2 rfl
      have s3 := cell_of_box (bx_later HB6.out HS.out) 3 rfl
      have s4 := cell_of_box (bx_later HB6.out HS.out) 4 rfl
      have p0 := cell_of_box (bx_later HB6.out HX.out) 0 rfl
      have p1 := cell_of_box (bx_later HB6.out HX.out) 1 rfl
      have p2 := cell_of_box (bx_later HB6.out HX.out) 2 rfl
      have p3 := cell_of_box (bx_later HB6.out HX.out) 3 rfl
      have p4 := cell_of_box (bx_later HB6.out HX.out) 4 rfl
      have p5 := cell_of_box (bx_later HB6.out HX.out) 5 rfl
      have p6 := cell_of_box (bx_later HB6.out HX.out) 6 rfl
      have p7 := cell_of_box (bx_later HB6.out HX.out) 7 rfl
      have p8 := cell_of_box (bx_later HB6.out HX.out) 8 rfl
      have p9 := cell_of_box (bx_later HB6.out HX.out) 9 rfl
      have p10 := cell_of_box (bx_later HB6.out HX.out) 10 rfl
      cases fm
      · obtain ⟨u, hu⟩ : ∃ u, uptoB deps line = u := ⟨_, rfl⟩
        have HU := Lib.hid hu
        rw [hu] at HRR1
        clear hu
        go_wp2_with fail
        refine (vUpto_b u HU.out HDL.out HGL.out (HDD.out.later HB6.out) (HVV.out.later HB6.out)).mono ?_
        rintro e w7 ⟨rfl, rfl⟩
        clear p0 p1 p2 p3 p4 p5 p6 p7 p8 p9 p10 s0 s1 s2 s3 s4
        go_wp2_with fail
        go_ret
        exact ⟨ret_bool HRR1.out.symm, below_then HB2.out HB6.out⟩
      · go_wp2_with fail
        go_ret
        exact ⟨ret_bool HRR1.out.symm, below_then HB2.out HB6.out⟩
end Go.Proofs.YtnolbabpkhdpmaaGreat
/- Layer 20 (past): Closed. (printed by tools/gen_qd.py) -/
namespace Go.Proofs.YtnolbabpkhdpmaaGreat
open Go.RowKit Go.Sort Go.BigFrame Go.MapKept
attribute [local irreducible] FlowW

/-- Has each transaction a dot of its own? -/
def dotsOk (l : List TxS) : Bool := (List.range l.length).all fun k => (findD (l.getD k default).dev (l.getD k default).seq (l.take k)).isNone
def mayX (line : List Int) (last : Int) (l : List TxS) (known : List Int) (x : TxS) : Bool := mayT line last l known x.dev x.seq x.time x.fm x.deps
def closedT (line : List Int) (last : Int) (l : List TxS) : Bool :=
  if dotsOk l = false then false else if l.all (mayX line last l (knownT line l)) = false then false else rightVec line && inQ3 last 0 1125899906842624
theorem dotsOk_false {l : List TxS} {k : Nat} {x y : TxS} (hk : k < l.length) (hx : l[k]? = some x) (h : findD x.dev x.seq (l.take k) = some y) : dotsOk l = false :=
  List.all_eq_false.2 ⟨k, List.mem_range.2 hk, by rw [List.getD_eq_getElem?_getD, hx]; simp [h]⟩
theorem may_m {dev seq time note whom upto : Int} {fm : Bool} {ad ao ae ah : Option Addr} {nd cd no co ne ce nh ch m q n : Nat} {ga la ka : Option Addr} {gc lc kc g : Nat} {line known deps : List Int} {last : Int} {l : List TxS} {w : World} {r : Bool} (hr : mayT line last l known dev seq time fm deps = r) (h1 : line.length = m) (h2 : known.length = q) (h3 : l.length = n) (h4 : deps.length = nd) (hv : Rd w (.slice ga line.length gc) line.length (line.map ic)) (hk : Rd w (.slice ka known.length kc) known.length (known.map ic)) (hl : LRd w (.slice la l.length lc) l) (hm : DM g w l) (hd : Rd w (.slice ad deps.length cd) deps.length (deps.map ic)) (hwr : ∀ d, -9223372036854775808 ≤ ofV line d) :
    Calls Tryz.prog 22 #[.agg #[.slice ga m gc, .int .i64 last, .slice la n lc, .map (some g), .slice ka q kc], .agg #[.int .i64 dev, .int .i64 seq, .int .i64 time, .slice ad nd cd, .slice ao no co, .slice ae ne ce, .bool fm, .slice ah nh ch, .int .i64 note, .int .i64 whom, .int .i64 upto]] w fun e w' => e = .returned (.bool r) ∧ Below w.heap.size w w' := by
  subst h1 h2 h3 h4 hr
  exact may_any w hv hk hl hm hd hwr
theorem rd_mapT {w w' : World} {g : Nat} {es : Array MapEntry} {ck : Nat} (hg : w.heap[g]? = some (.map es ck)) (hb : But (fun k => k = g) w w') {v : Value} {n : Nat} {xs : List Value} (h : Rd w v n xs) : Rd w' v n xs := by
  obtain ⟨ao, c, rfl, h1, h2, h3, h4⟩ := h
  refine ⟨ao, c, rfl, h1, h2, h3, fun a ha j u hu => ?_⟩
  have hc := h4 a ha j u hu
  refine hb.cell hc fun he => ?_
  simp [World.cell?, he, hg] at hc
theorem bx_mapT {w w' : World} {g s : Nat} {es : Array MapEntry} {ck : Nat} (hg : w.heap[g]? = some (.map es ck)) (hb : But (fun k => k = g) w w') {cs : Array Value} {T : TypeId} (h : Bx w s cs T) : Bx w' s cs T := by
  refine hb.blk h fun e => ?_
  subst e
  have h' : w.heap[s]? = _ := h
  rw [hg] at h'
  cases h'
theorem dot_x {dev seq time note whom upto : Int} {fm : Bool} {ad ao ae ah : Option Addr} {nd cd no co ne ce nh ch : Nat} (w : World) : Calls Tryz.prog 21 #[.agg #[.int .i64 dev, .int .i64 seq, .int .i64 time, .slice ad nd cd, .slice ao no co, .slice ae ne ce, .bool fm, .slice ah nh ch, .int .i64 note, .int .i64 whom, .int .i64 upto]] w fun e w' => e = .returned (.agg #[.int .i64 dev, .int .i64 seq]) ∧ ∃ o1 o2, w' = (w.alloc o1).alloc o2 := by
  go_enter Tryz.func21, Tryz.ntmps21
  go_wp2
  exact bodyPost_ret (v := .agg #[.int .i64 dev, .int .i64 seq]) (by simp [results, Tryz.results21, go_sem]) rfl ⟨rfl, _, _, rfl⟩
set_option maxRecDepth 100000 in
set_option maxHeartbeats 8000000 in
theorem closed_any {vv vl : Value} {line : List Int} {last : Int} {l : List TxS} (w : World) (hv : Rd w vv line.length (line.map ic)) (hl : LRd w vl l) (hwr : ∀ d, -9223372036854775808 ≤ ofV line d) (hn : l.length ≤ 1000000) :
    Calls Tryz.prog 6 #[vv, .int .i64 last, vl] w fun e w' => e = .returned (.bool (closedT line last l)) ∧ Below w.heap.size w w' := by
  obtain ⟨ga, gc, rfl, hgn, hgm, -, -⟩ := id hv
  obtain ⟨la, lc, rfl, hnn, hnm, -, -⟩ := id hl.1
  unfold maxLen at hgm hnm
  obtain ⟨m, hgl⟩ : ∃ m, line.length = m := ⟨_, rfl⟩
  obtain ⟨n, hln⟩ : ∃ n, l.length = n := ⟨_, rfl⟩
  rw [hgl] at hgn ⊢
  rw [hln] at hnn hn ⊢
  obtain ⟨g, hg0⟩ : ∃ g, w.heap.size = g := ⟨_, rfl⟩
  have HG0 := Lib.hid hg0
  obtain ⟨w1, hw1⟩ : ∃ w1, w.alloc (.map #[] 0) = w1 := ⟨_, rfl⟩
  have hbw1 : Below w.heap.size w w1 := by rw [← hw1]; exact below_alloc _ _
  have hm1 : DM g w1 [] := by rw [← hw1, ← hg0]; exact dm_new w
  have hmk : ∀ W, (Instr.makeMap 46 none).run Tryz.prog W = .ok (.map (some W.heap.size)) (W.alloc (.map #[] 0)) := fun W => rfl
  have HB1 := Lib.hid hbw1
  have HM1 := Lib.hid hm1
  have HV := Lib.hid (hv.later hbw1)
  have HL := Lib.hid (hl.later hbw1)
  have HV0 := Lib.hid hv
  have HL0 := Lib.hid hl
  have HWR := Lib.hid hwr
  have HGL := Lib.hid hgl
  have HLN := Lib.hid hln
  have HW1 := Lib.hid hw1
  have HNN := Lib.hid hn
  clear hv hl hwr hgl hln hw1 hbw1 hm1 hg0
  go_enter Tryz.func6, Tryz.ntmps6
  go_wp2_with fail
  rw [HW1.out, HG0.out]
  have hkn := known_any w1 HV.out HL.out (by have := HLN.out; omega)
  rw [HGL.out, HLN.out] at hkn
  refine hkn.mono ?_
  rintro e w2 ⟨kv, rfl, hkv, hb2⟩
  obtain ⟨ka, kc, rfl, -⟩ := id (Rd.of_own hkv)
  obtain ⟨known, hknown⟩ : ∃ known, knownT line l = known := ⟨_, rfl⟩
  rw [hknown] at hkv hkn ⊢
  obtain ⟨q, hkl⟩ : ∃ q, known.length = q := ⟨_, rfl⟩
  have hk2 : Rd w2 (.slice ka known.length kc) known.length (known.map ic) := Rd.of_own hkv
  rw [hkl]
  have HKN := Lib.hid hknown
  have HKL := Lib.hid hkl
  have HM2 := Lib.hid (HM1.out.later hb2)
  obtain ⟨w3, hw3⟩ : ∃ w3, w2.alloc (.cells #[.slice ga m gc, .int .i64 last, .slice la n lc, .map (some g), .slice ka q kc] 48) = w3 := ⟨_, rfl⟩
  have hbw3 : Below w2.heap.size w2 w3 := by rw [← hw3]; exact below_alloc _ _
  have bw3 : Bx w3 w2.heap.size #[.slice ga m gc, .int .i64 last, .slice la n lc, .map (some g), .slice ka q kc] 48 := by rw [← hw3]; exact bx_new rfl
  have Hw3 := Lib.hid hw3
  have HS3 := Lib.hid bw3
  have HK3 := Lib.hid (hk2.later hbw3)
  have HM3 := Lib.hid (HM2.out.later hbw3)
  have HB13 := Lib.hid (below_then hb2 hbw3)
  have HB3 := Lib.hid (below_then HB1.out (below_then hb2 hbw3))
  obtain ⟨s, hs0⟩ : ∃ s, w2.heap.size = s := ⟨_, rfl⟩
  have HS0 := Lib.hid hs0
  rw [hs0] at HS3
  clear hkv hb2 hknown hkl hk2 hw3 hbw3 bw3 hkn
  go_upto_region 2 with fail
  rw [Hw3.out]
  clear hs0 hmk
  go_wp2_with fail
  go_loopw [24] (fun vi wr => ∃ k : Nat, k ≤ n ∧ vi = .int .i64 k ∧ Hid (∀ j : Nat, j < k → (findD (l.getD j default).dev (l.getD j default).seq (l.take j)).isNone = true) ∧ Hid (DM g wr (l.take k)) ∧ Hid (Bx wr s #[.slice ga m gc, .int .i64 last, .slice la n lc, .map (some g), .slice ka q kc] 48) ∧ Hid (Rd wr (.slice ka known.length kc) known.length (known.map ic)) ∧ Hid (Below w.heap.size w wr)) (fun vi _ => n - (intOf vi).toNat)
  case atStart => exact ⟨0, Nat.zero_le _, by go_num, (fun j hj => absurd hj (by omega)), HM3.out, HS3.out, HK3.out, HB3.out⟩
  case round =>
    obtain ⟨k, hk, rfl, hall, HM, HS, HK, HB⟩ := hrel
    rename World => wr
    by_cases hlt : k < n
    · have hkl : k < l.length := by have := HLN.out; omega
      have hk2 : (k : Int) < (n : Int) := by omega
      obtain ⟨x, hx⟩ : ∃ x, l[k] = x := ⟨_, rfl⟩
      obtain ⟨b, oo, x1, c0, c1, c2, c3, c4, c5, c6, c7, c8, c9, c10, _⟩ := rd_txs ((HL0.out.later HB.out).1) rfl k hkl hx
      rw [HLN.out] at x1
      have HX : Hid (l[k]? = some x) := by show _ = _; rw [List.getElem?_eq_getElem hkl, hx]
      have HNX : Hid (l.take (k + 1) = l.take k ++ [x]) := by show _ = _; rw [List.take_succ_eq_append_getElem hkl, hx]
      have HKL2 := Lib.hid hkl
      clear hx hkl
      obtain ⟨w4, hw4⟩ : ∃ w4, wr.alloc (.cells #[.int .i64 x.dev, .int .i64 x.seq, .int .i64 x.time, .slice x.ad x.nd x.cd, .slice x.ao x.no x.co, .slice x.ae x.ne x.ce, .bool x.fm, .slice x.ah x.nh x.ch, .int .i64 x.note, .int .i64 x.whom, .int .i64 x.upto] 31) = w4 := ⟨_, rfl⟩
      have hbw4 : Below wr.heap.size wr w4 := by rw [← hw4]; exact below_alloc _ _
      have bw4 : Bx w4 wr.heap.size #[.int .i64 x.dev, .int .i64 x.seq, .int .i64 x.time, .slice x.ad x.nd x.cd, .slice x.ao x.no x.co, .slice x.ae x.ne x.ce, .bool x.fm, .slice x.ah x.nh x.ch, .int .i64 x.note, .int .i64 x.whom, .int .i64 x.upto] 31 := by rw [← hw4]; exact bx_new rfl
      have Hw4 := Lib.hid hw4
      have HQ := Lib.hid bw4
      have HB4 := Lib.hid (below_then HB.out hbw4)
      have HM4 := Lib.hid (HM.out.later hbw4)
      have HS4 := Lib.hid (bx_later hbw4 HS.out)
      have HK4 := Lib.hid (HK.out.later hbw4)
      clear hw4 hbw4 bw4 HM HS HK HB
      go_upto_region 5 with fail
      rw [Hw4.out]
      clear c0 c1 c2 c3 c4 c5 c6 c7 c8 c9 c10 x1
      have s0 := cell_of_box (HS4.out) 0 rfl
      have s1 := cell_of_box (HS4.out) 1 rfl
      have s2 := cell_of_box (HS4.out) 2 rfl
      have s3 := cell_of_box (HS4.out) 3 rfl
      have s4 := cell_of_box (HS4.out) 4 rfl
      have q0 := cell_of_box (HQ.out) 0 rfl
      have q1 := cell_of_box (HQ.out) 1 rfl
      have q2 := cell_of_box (HQ.out) 2 rfl
      have q3 := cell_of_box (HQ.out) 3 rfl
      have q4 := cell_of_box (HQ.out) 4 rfl
      have q5 := cell_of_box (HQ.out) 5 rfl
      have q6 := cell_of_box (HQ.out) 6 rfl
      have q7 := cell_of_box (HQ.out) 7 rfl
      have q8 := cell_of_box (HQ.out) 8 rfl
      have q9 := cell_of_box (HQ.out) 9 rfl
      have q10 := cell_of_box (HQ.out) 10 rfl
      cases hr : findD x.dev x.seq (l.take k) with
      | some y =>
        have HRR : Hid (closedT line last l = false) := by show _ = _; unfold closedT; rw [if_pos (dotsOk_false HKL2.out HX.out hr)]
        have HR := Lib.hid hr
        clear hr
        have hlk : ∀ W, Ext w4 W → (Instr.lookup 46 (.map (some g)) (.agg #[.int .i64 x.dev, .int .i64 x.seq]) true).run Tryz.prog W = .ok (.tuple #[.agg #[.int .i64 y.dev, .int .i64 y.seq, .int .i64 y.time, .slice y.ad y.nd y.cd, .slice y.ao y.no y.co, .slice y.ae y.ne y.ce, .bool y.fm, .slice y.ah y.nh y.ch, .int .i64 y.note, .int .i64 y.whom, .int .i64 y.upto], .bool true]) W := fun W hW => by
          have hlk := (HM4.out.later hW).look x.dev x.seq HR.out
          simp only [Option.map_some, Option.getD_some, Option.isSome_some] at hlk
          unfold TxS.agg at hlk
          exact hlk
        go_cut [10, 11] from 28 to 35 (fun s10 s11 wx => s11 = .bool true ∧ Hid (Ext w4 wx))
        case first =>
          go_region_held3 (fun w' => Ext w4 w' ∧ w'.cell? ⟨s, 3, none⟩ = some (.map (some g)) ∧ w'.cell? ⟨wr.heap.size, 0, none⟩ = some (.int .i64 x.dev) ∧ w'.cell? ⟨wr.heap.size, 1, none⟩ = some (.int .i64 x.seq) ∧ w'.cell? ⟨wr.heap.size, 2, none⟩ = some (.int .i64 x.time) ∧ w'.cell? ⟨wr.heap.size, 3, none⟩ = some (.slice x.ad x.nd x.cd) ∧ w'.cell? ⟨wr.heap.size, 4, none⟩ = some (.slice x.ao x.no x.co) ∧ w'.cell? ⟨wr.heap.size, 5, none⟩ = some (.slice x.ae x.ne x.ce) ∧ w'.cell? ⟨wr.heap.size, 6, none⟩ = some (.bool x.fm) ∧ w'.cell? ⟨wr.heap.size, 7, none⟩ = some (.slice x.ah x.nh x.ch) ∧ w'.cell? ⟨wr.heap.size, 8, none⟩ = some (.int .i64 x.note) ∧ w'.cell? ⟨wr.heap.size, 9, none⟩ = some (.int .i64 x.whom) ∧ w'.cell? ⟨wr.heap.size, 10, none⟩ = some (.int .i64 x.upto) ∧ (Instr.lookup 46 (.map (some g)) (.agg #[.int .i64 x.dev, .int .i64 x.seq]) true).run Tryz.prog w' = .ok (.tuple #[.agg #[.int .i64 y.dev, .int .i64 y.seq, .int .i64 y.time, .slice y.ad y.nd y.cd, .slice y.ao y.no y.co, .slice y.ae y.ne y.ce, .bool y.fm, .slice y.ah y.nh y.ch, .int .i64 y.note, .int .i64 y.whom, .int .i64 y.upto], .bool true]) w') ((refine (fun E => ⟨E, cell_later E s3, cell_later E q0, cell_later E q1, cell_later E q2, cell_later E q3, cell_later E q4, cell_later E q5, cell_later E q6, cell_later E q7, cell_later E q8, cell_later E q9, cell_later E q10, hlk _ E⟩) ?_; first | exact (Below.refl _ _).drew | exact below_then ((Below.refl _ _).drew) (below_alloc _ _) | exact below_then (below_then ((Below.refl _ _).drew) (below_alloc _ _)) (below_alloc _ _) | exact below_then (below_then (below_then ((Below.refl _ _).drew) (below_alloc _ _)) (below_alloc _ _)) (below_alloc _ _) | exact below_then (by assumption) (below_alloc _ _) | exact below_then (below_then (by assumption) (below_alloc _ _)) (below_alloc _ _))) ((go_at_call 21; (with_reducible refine (dot_x _).mono ?_); rintro e w' ⟨rfl, o1, o2, rfl⟩))
          all_goals
            go_wp2_with fail
            go_meet
            exact ⟨rfl, (below_then (below_then (below_alloc _ _) (below_alloc _ _)) (below_alloc _ _)).drew⟩
        case rest =>
          obtain ⟨rfl, HB45⟩ := hcut
          rename World => w5

          go_wp2_with fail
          go_ret
          exact ⟨ret_bool HRR.out.symm, below_then HB4.out HB45.out⟩
      | none =>
        have HR := Lib.hid hr
        have HOK : Hid ((findD (l.getD k default).dev (l.getD k default).seq (l.take k)).isNone = true) := by
          show _ = _
          rw [List.getD_eq_getElem?_getD, HX.out]
          simp [hr]
        clear hr
        have hlk : ∀ W, Ext w4 W → (Instr.lookup 46 (.map (some g)) (.agg #[.int .i64 x.dev, .int .i64 x.seq]) true).run Tryz.prog W = .ok (.tuple #[.agg #[.int .i64 0, .int .i64 0, .int .i64 0, .slice none 0 0, .slice none 0 0, .slice none 0 0, .bool false, .slice none 0 0, .int .i64 0, .int .i64 0, .int .i64 0], .bool false]) W := fun W hW => by
          have hlk := (HM4.out.later hW).look x.dev x.seq HR.out
          simp only [Option.map_none, Option.getD_none, Option.isSome_none] at hlk
          unfold zeroTx at hlk
          exact hlk
        go_cut [10, 11] from 28 to 35 (fun s10 s11 wx => s11 = .bool false ∧ Hid (Ext w4 wx))
        case first =>
          go_region_held3 (fun w' => Ext w4 w' ∧ w'.cell? ⟨s, 3, none⟩ = some (.map (some g)) ∧ w'.cell? ⟨wr.heap.size, 0, none⟩ = some (.int .i64 x.dev) ∧ w'.cell? ⟨wr.heap.size, 1, none⟩ = some (.int .i64 x.seq) ∧ w'.cell? ⟨wr.heap.size, 2, none⟩ = some (.int .i64 x.time) ∧ w'.cell? ⟨wr.heap.size, 3, none⟩ = some (.slice x.ad x.nd x.cd) ∧ w'.cell? ⟨wr.heap.size, 4, none⟩ = some (.slice x.ao x.no x.co) ∧ w'.cell? ⟨wr.heap.size, 5, none⟩ = some (.slice x.ae x.ne x.ce) ∧ w'.cell? ⟨wr.heap.size, 6, none⟩ = some (.bool x.fm) ∧ w'.cell? ⟨wr.heap.size, 7, none⟩ = some (.slice x.ah x.nh x.ch) ∧ w'.cell? ⟨wr.heap.size, 8, none⟩ = some (.int .i64 x.note) ∧ w'.cell? ⟨wr.heap.size, 9, none⟩ = some (.int .i64 x.whom) ∧ w'.cell? ⟨wr.heap.size, 10, none⟩ = some (.int .i64 x.upto) ∧ (Instr.lookup 46 (.map (some g)) (.agg #[.int .i64 x.dev, .int .i64 x.seq]) true).run Tryz.prog w' = .ok (.tuple #[.agg #[.int .i64 0, .int .i64 0, .int .i64 0, .slice none 0 0, .slice none 0 0, .slice none 0 0, .bool false, .slice none 0 0, .int .i64 0, .int .i64 0, .int .i64 0], .bool false]) w') ((refine (fun E => ⟨E, cell_later E s3, cell_later E q0, cell_later E q1, cell_later E q2, cell_later E q3, cell_later E q4, cell_later E q5, cell_later E q6, cell_later E q7, cell_later E q8, cell_later E q9, cell_later E q10, hlk _ E⟩) ?_; first | exact (Below.refl _ _).drew | exact below_then ((Below.refl _ _).drew) (below_alloc _ _) | exact below_then (below_then ((Below.refl _ _).drew) (below_alloc _ _)) (below_alloc _ _) | exact below_then (below_then (below_then ((Below.refl _ _).drew) (below_alloc _ _)) (below_alloc _ _)) (below_alloc _ _) | exact below_then (by assumption) (below_alloc _ _) | exact below_then (below_then (by assumption) (below_alloc _ _)) (below_alloc _ _))) ((go_at_call 21; (with_reducible refine (dot_x _).mono ?_); rintro e w' ⟨rfl, o1, o2, rfl⟩))
          all_goals
            go_wp2_with fail
            go_meet
            exact ⟨rfl, (below_then (below_then (below_alloc _ _) (below_alloc _ _)) (below_alloc _ _)).drew⟩
        case rest =>
          obtain ⟨rfl, HB45⟩ := hcut
          rename World => w5

          go_upto_region 8 with fail
          have s0 := cell_of_box (bx_later HB45.out HS4.out) 0 rfl
          have s1 := cell_of_box (bx_later HB45.out HS4.out) 1 rfl
          have s2 := cell_of_box (bx_later HB45.out HS4.out) 2 rfl
          have s3 := cell_of_box (bx_later HB45.out HS4.out) 3 rfl
          have s4 := cell_of_box (bx_later HB45.out HS4.out) 4 rfl
          have q0 := cell_of_box (bx_later HB45.out HQ.out) 0 rfl
          have q1 := cell_of_box (bx_later HB45.out HQ.out) 1 rfl
          have q2 := cell_of_box (bx_later HB45.out HQ.out) 2 rfl
          have q3 := cell_of_box (bx_later HB45.out HQ.out) 3 rfl
          have q4 := cell_of_box (bx_later HB45.out HQ.out) 4 rfl
          have q5 := cell_of_box (bx_later HB45.out HQ.out) 5 rfl
          have q6 := cell_of_box (bx_later HB45.out HQ.out) 6 rfl
          have q7 := cell_of_box (bx_later HB45.out HQ.out) 7 rfl
          have q8 := cell_of_box (bx_later HB45.out HQ.out) 8 rfl
          have q9 := cell_of_box (bx_later HB45.out HQ.out) 9 rfl
          have q10 := cell_of_box (bx_later HB45.out HQ.out) 10 rfl
          refine wp_region_flow (by kernel_rfl) 5 [(3, ⟨fun v => v = .agg #[.int .i64 x.dev, .int .i64 x.seq], fun _ _ _ _ => True⟩)] (by kernel_rfl) ?_ ?_ ?_
          · intro x hx
            simp only [List.mem_cons, List.not_mem_nil, or_false] at hx
            subst hx
            exact ⟨_, rfl⟩
          · intro x hx v lo hi w w' h hb
            simp only [List.mem_cons, List.not_mem_nil, or_false] at hx
            subst hx
            exact trivial
          · intro lo hi
            have ks0 := cell_regrown s0
            have ks1 := cell_regrown s1
            have ks2 := cell_regrown s2
            have ks3 := cell_regrown s3
            have ks4 := cell_regrown s4
            have kq0 := cell_regrown q0
            have kq1 := cell_regrown q1
            have kq2 := cell_regrown q2
            have kq3 := cell_regrown q3
            have kq4 := cell_regrown q4
            have kq5 := cell_regrown q5
            have kq6 := cell_regrown q6
            have kq7 := cell_regrown q7
            have kq8 := cell_regrown q8
            have kq9 := cell_regrown q9
            have kq10 := cell_regrown q10
            refine flowW_plain rfl ?_
            go_big_quiet_step (fail)
            refine wpQuiet_nil ?_
            refine flowW_plain rfl ?_
            go_big_quiet_step (fail)
            refine wpQuiet_nil ?_
            refine flowW_plain rfl ?_
            go_big_quiet_step (fail)
            refine wpQuiet_nil ?_
            refine flowW_call rfl rfl ?_ ?_
            · intro W hW hF K hK
              clear ks0 ks1 ks2 ks3 ks4 kq0 kq1 kq2 kq3 kq4 kq5 kq6 kq7 kq8 kq9 kq10
              go_wp2_with fail
              refine (dot_any _).mono ?_
              rintro e wq ⟨rfl, hbq⟩
              go_wp2_with fail
              exact hK _ _ rfl trivial hbq
            rintro v rfl K hK
            go_simp
            refine hK _ ?_
            clear hK K
            refine flowW_plain rfl ?_
            go_big_quiet_step (fail)
            refine wpQuiet_nil ?_
            refine flowW_end fun wy hwy hF hD => ?_
            clear ks0 ks1 ks2 ks3 ks4 kq0 kq1 kq2 kq3 kq4 kq5 kq6 kq7 kq8 kq9 kq10
            simp only [List.drop_succ_cons, List.drop_zero]
            obtain ⟨w7, hup, hm7, hbt⟩ := (HM4.out.later (below_then HB45.out hwy)).step x HR.out
            unfold TxS.agg at hup
            obtain ⟨es, ck, hgg, -⟩ := id (HM4.out.later (below_then HB45.out hwy))
            have HM7 : Hid (DM g w7 (l.take (k + 1))) := by show DM _ _ _; rw [HNX.out]; exact hm7
            have HS7 : Hid (Bx w7 s #[.slice ga m gc, .int .i64 last, .slice la n lc, .map (some g), .slice ka q kc] 48) := bx_mapT hgg hbt (bx_later (below_then HB45.out hwy) HS4.out)
            have HK7 : Hid (Rd w7 (.slice ka known.length kc) known.length (known.map ic)) := rd_mapT hgg hbt (HK4.out.later (below_then HB45.out hwy))
            have HB7 : Hid (Below w.heap.size w w7) := (below_then HB4.out (below_then HB45.out hwy)).trans (hbt.below (by have h1 := HB4.out.size; have h2 := HB45.out.size; have h3 := hwy.size; omega) (fun k e => by rw [e, HG0.out]; exact Nat.le_refl _))
            clear hF hD q0 q1 q2 q3 q4 q5 q6 q7 q8 q9 q10 s0 s1 s2 s3 s4 hm7 hbt hgg hwy
            go_wp2_with fail
            clear hup
            go_roundw
            case rel => exact ⟨k + 1, by omega, by go_num, (fun j hj => by rcases Nat.lt_or_ge j k with h | h; exact hall.out j h; rw [show j = k by omega]; exact HOK.out), HM7.out, HS7.out, HK7.out, HB7.out⟩
            case measure => simp [intOf]; omega
    · have hkn : n = k := by omega
      subst hkn
      have hk2 : ¬ (n : Int) < (n : Int) := by omega
      have HMM : Hid (DM g wr l) := by have := HM.out; rwa [List.take_of_length_le (by have := HLN.out; omega)] at this
      have HRR0 : Hid (closedT line last l = if l.all (mayX line last l known) = false then false else rightVec line && inQ3 last 0 1125899906842624) := by
        show _ = _
        unfold closedT
        rw [if_neg (by unfold dotsOk; rw [List.all_eq_true.2 fun j hj => hall.out j (by have := List.mem_range.1 hj; have := HLN.out; omega)]; simp), HKN.out]
      clear hall HM
      have HBR := HB
      clear HB hlt hk
      go_wp2_with fail
      go_loopw [45] (fun vi wz => ∃ k : Nat, k ≤ n ∧ vi = .int .i64 k ∧ Hid (∀ j : Nat, j < k → mayX line last l known (l.getD j default) = true) ∧ Hid (Below wr.heap.size wr wz)) (fun vi _ => n - (intOf vi).toNat)
      case atStart => exact ⟨0, Nat.zero_le _, by go_num, (fun j hj => absurd hj (by omega)), Below.refl _ _⟩
      case round =>
        obtain ⟨k, hk, rfl, hall, HB⟩ := hrel
        rename World => wz
        by_cases hlt : k < n
        · have hkl : k < l.length := by have := HLN.out; omega
          have hk3 : (k : Int) < (n : Int) := by omega
          obtain ⟨x, hx⟩ : ∃ x, l[k] = x := ⟨_, rfl⟩
          obtain ⟨b, oo, x1, c0, c1, c2, c3, c4, c5, c6, c7, c8, c9, c10, _⟩ := rd_txs ((HL0.out.later (below_then HBR.out HB.out)).1) rfl k hkl hx
          rw [HLN.out] at x1
          have HXR := Lib.hid (HL0.out.2 x (hx ▸ List.getElem_mem hkl))
          obtain ⟨r, hr⟩ : ∃ r, mayT line last l known x.dev x.seq x.time x.fm x.deps = r := ⟨_, rfl⟩
          have hgx : l.getD k default = x := by rw [List.getD_eq_getElem?_getD, List.getElem?_eq_getElem hkl]; simp [hx]
          have HOK : Hid (mayX line last l known (l.getD k default) = r) := by show _ = _; rw [hgx]; exact hr
          have HNO : Hid (r = false → closedT line last l = false) := fun h => HRR0.out.trans (if_pos (List.all_eq_false.2 ⟨x, hx ▸ List.getElem_mem hkl, by unfold mayX; rw [hr, h]; simp⟩))
          have HR := Lib.hid hr
          clear hx hkl hr hgx
          obtain ⟨w4, hw4⟩ : ∃ w4, wz.alloc (.cells #[.int .i64 x.dev, .int .i64 x.seq, .int .i64 x.time, .slice x.ad x.nd x.cd, .slice x.ao x.no x.co, .slice x.ae x.ne x.ce, .bool x.fm, .slice x.ah x.nh x.ch, .int .i64 x.note, .int .i64 x.whom, .int .i64 x.upto] 31) = w4 := ⟨_, rfl⟩
          have hbw4 : Below wz.heap.size wz w4 := by rw [← hw4]; exact below_alloc _ _
          have bw4 : Bx w4 wz.heap.size #[.int .i64 x.dev, .int .i64 x.seq, .int .i64 x.time, .slice x.ad x.nd x.cd, .slice x.ao x.no x.co, .slice x.ae x.ne x.ce, .bool x.fm, .slice x.ah x.nh x.ch, .int .i64 x.note, .int .i64 x.whom, .int .i64 x.upto] 31 := by rw [← hw4]; exact bx_new rfl
          have Hw4 := Lib.hid hw4
          have HQ := Lib.hid bw4
          have HB4 := Lib.hid (below_then HB.out hbw4)
          clear hw4 hbw4 bw4
          go_upto_region 13 with fail
          rw [Hw4.out]
          clear c0 c1 c2 c3 c4 c5 c6 c7 c8 c9 c10 x1
          have s0 := cell_of_box (bx_later HB4.out HS.out) 0 rfl
          have s1 := cell_of_box (bx_later HB4.out HS.out) 1 rfl
          have s2 := cell_of_box (bx_later HB4.out HS.out) 2 rfl
          have s3 := cell_of_box (bx_later HB4.out HS.out) 3 rfl
          have s4 := cell_of_box (bx_later HB4.out HS.out) 4 rfl
          have q0 := cell_of_box (HQ.out) 0 rfl
          have q1 := cell_of_box (HQ.out) 1 rfl
          have q2 := cell_of_box (HQ.out) 2 rfl
          have q3 := cell_of_box (HQ.out) 3 rfl
          have q4 := cell_of_box (HQ.out) 4 rfl
          have q5 := cell_of_box (HQ.out) 5 rfl
          have q6 := cell_of_box (HQ.out) 6 rfl
          have q7 := cell_of_box (HQ.out) 7 rfl
          have q8 := cell_of_box (HQ.out) 8 rfl
          have q9 := cell_of_box (HQ.out) 9 rfl
          have q10 := cell_of_box (HQ.out) 10 rfl
          go_wp2_with fail
          refine (may_m HR.out HGL.out HKL.out HLN.out HXR.out.hnd.symm (HGL.out.symm ▸ HGL.out.symm ▸ (HV0.out.later (below_then HBR.out HB4.out))) (HK.out.later HB4.out) (HL0.out.later (below_then HBR.out HB4.out)) (HMM.out.later HB4.out) (HXR.out.hnd ▸ (HXR.out.later (below_then HBR.out HB4.out)).deps') HWR.out).mono ?_
          rintro e w5 ⟨rfl, hb5⟩
          have HB5 := Lib.hid (below_then HB4.out hb5)
          clear hb5 q0 q1 q2 q3 q4 q5 q6 q7 q8 q9 q10 s0 s1 s2 s3 s4
          cases r
          · go_wp2_with fail
            go_ret
            exact ⟨ret_bool (HNO.out (by first | rfl | trivial)).symm, below_then HBR.out HB5.out⟩
          · go_wp2_with fail
            go_roundw
            case rel => exact ⟨k + 1, by omega, by go_num, (fun j hj => by rcases Nat.lt_or_ge j k with h | h; exact hall.out j h; rw [show j = k by omega]; exact HOK.out), HB5.out⟩
            case measure => simp [intOf]; omega
        · have hkn : n = k := by omega
          subst hkn
          have hk3 : ¬ (n : Int) < (n : Int) := by omega
          have HRR1 : Hid (closedT line last l = (rightVec line && inQ3 last 0 1125899906842624)) := by
            show _ = _
            rw [HRR0.out, if_neg]
            rw [List.all_eq_true.2]
            · simp
            · intro x hx
              obtain ⟨j, hj, rfl⟩ := List.mem_iff_getElem.1 hx
              have := hall.out j (by have := HLN.out; omega)
              rwa [List.getD_eq_getElem?_getD, List.getElem?_eq_getElem hj] at this
          clear hall
          obtain ⟨u, hu⟩ : ∃ u, rightVec line = u := ⟨_, rfl⟩
          have HU := Lib.hid hu
          rw [hu] at HRR1
          clear hu
          go_wp2_with fail
          refine (vecRight_b HU.out HGL.out (HV0.out.later (below_then HBR.out HB.out))).mono ?_
          rintro e w6 ⟨rfl, rfl⟩
          cases u
          · go_wp2_with fail
            go_ret
            exact ⟨ret_bool HRR1.out.symm, below_then HBR.out HB.out⟩
          · obtain ⟨v, hv⟩ : ∃ v, inQ3 last 0 1125899906842624 = v := ⟨_, rfl⟩
            have HVI := Lib.hid hv
            rw [hv] at HRR1
            clear hv
            go_wp2_with fail
            refine (within_bk HVI.out _).mono ?_
            rintro e w6 ⟨rfl, rfl⟩
            go_wp2_with fail
            go_ret
            exact ⟨ret_bool HRR1.out.symm, below_then HBR.out HB.out⟩
end Go.Proofs.YtnolbabpkhdpmaaGreat
/- Layer 20 (past), plain: what a closed set's parts are. -/
namespace Go.Proofs.YtnolbabpkhdpmaaGreat
open Go.RowKit Go.Sort

/-! ### The order -/
theorem st_getD (l : List TxS) (n : Nat) : (l.map TxS.st).getD n ⟨0, 0, 0⟩ = (l.getD n default).st := by
  simp only [List.getD_eq_getElem?_getD, List.getElem?_map]
  cases l[n]? <;> rfl
theorem map_uptoT (l : List TxS) : (upto l.length).map (fun i => l.getD i.toNat default) = l := by
  apply List.ext_getElem
  · simp [upto]
  · intro i h1 h2
    simp [upto, h2]
theorem ordT_perm (l : List TxS) : (ordT l).Perm l := by
  unfold ordT orderL
  have := (isortL_perm (lt := ltC (cmpAt (l.map TxS.st))) (upto (l.map TxS.st).length)).map (fun i : Int => l.getD i.toNat default)
  rw [List.length_map] at this ⊢
  rwa [map_uptoT] at this
theorem ordT_asc (l : List TxS) : (ordT l).Pairwise (fun a b => lessS b.st a.st = false) := by
  unfold ordT
  rw [List.pairwise_map]
  have := isortL_asc (swoAt (l.map TxS.st)) (upto (l.map TxS.st).length)
  unfold Asc at this
  refine this.imp fun {a b} h => ?_
  rw [ltC_cmpAt, st_getD, st_getD] at h
  exact h
/-- One that is done earlier has no greater time. -/
theorem ordT_time {l : List TxS} {i k : Nat} {x y : TxS} (hx : (ordT l)[i]? = some x) (hy : (ordT l)[k]? = some y) (h : i < k) : x.time ≤ y.time := by
  obtain ⟨h1, rfl⟩ := List.getElem?_eq_some_iff.1 hx
  obtain ⟨h2, rfl⟩ := List.getElem?_eq_some_iff.1 hy
  have := List.pairwise_iff_getElem.1 (ordT_asc l) i k h1 h2 h
  rw [lessS_false] at this
  simp only [TxS.st] at this
  omega
theorem ordT_iff {l : List TxS} {x : TxS} : x ∈ ordT l ↔ x ∈ l := (ordT_perm l).mem_iff

/-! ### Dots -/
def Nd (l : List TxS) : Prop := l.Pairwise fun a b => ¬ (a.dev = b.dev ∧ a.seq = b.seq)
theorem dotsOk_iff {l : List TxS} : dotsOk l = true ↔ Nd l := by
  unfold dotsOk Nd
  rw [List.all_eq_true, List.pairwise_iff_getElem]
  constructor
  · intro h i j hi hj hij
    have := h j (List.mem_range.2 hj)
    rw [List.getD_eq_getElem?_getD, List.getElem?_eq_getElem hj, Option.isNone_iff_eq_none] at this
    have := findD_none.1 this l[i] (List.mem_take_iff_getElem.2 ⟨i, by omega, rfl⟩)
    simp only [Option.getD_some] at this
    intro hh
    exact this ⟨hh.1.symm, hh.2.symm⟩
  · intro h j hj
    have hj := List.mem_range.1 hj
    rw [List.getD_eq_getElem?_getD, List.getElem?_eq_getElem hj, Option.isNone_iff_eq_none]
    refine findD_none.2 fun x hx hh => ?_
    obtain ⟨i, hi, rfl⟩ := List.mem_take_iff_getElem.1 hx
    exact h i j (by omega) hj (by omega) ⟨hh.1.symm, hh.2.symm⟩
theorem Nd.eq {l : List TxS} (h : Nd l) {x y : TxS} (hx : x ∈ l) (hy : y ∈ l) (h1 : x.dev = y.dev) (h2 : x.seq = y.seq) : x = y := by
  induction l with
  | nil => cases hx
  | cons a l ih =>
    have h' := List.pairwise_cons.1 h
    rcases List.mem_cons.1 hx with hx1 | hx1
    · rcases List.mem_cons.1 hy with hy1 | hy1
      · rw [hx1, hy1]
      · rw [hx1] at h1 h2
        exact absurd ⟨h1, h2⟩ (h'.1 y hy1)
    · rcases List.mem_cons.1 hy with hy1 | hy1
      · rw [hy1] at h1 h2
        exact absurd ⟨h1.symm, h2.symm⟩ (h'.1 x hx1)
      · exact ih h'.2 hx1 hy1
theorem Nd.perm {l m : List TxS} (h : Nd l) (hp : m.Perm l) : Nd m := (hp.pairwise_iff (fun {_ _} hne he => hne ⟨he.1.symm, he.2.symm⟩)).2 h
theorem Nd.sub {l m : List TxS} (h : Nd l) (hp : m.Sublist l) : Nd m := List.Pairwise.sublist hp h
theorem Nd.find {l : List TxS} (h : Nd l) {x : TxS} (hx : x ∈ l) : findD x.dev x.seq l = some x := by
  cases hf : findD x.dev x.seq l with
  | none => exact absurd ⟨rfl, rfl⟩ (findD_none.1 hf x hx)
  | some y =>
    obtain ⟨h1, h2, h3⟩ := findD_some hf
    rw [h.eq h1 hx h2 h3]

/-! ### Greatest times, and what is known -/
theorem timeF_le {deps : List Int} {m : Int} : ∀ {l : List TxS} {n : Int}, l.foldl (timeF deps) n ≤ m ↔ n ≤ m ∧ ∀ y ∈ l, hasV deps y.dot = true → y.time ≤ m
  | [], n => by simp
  | x :: l, n => by
    rw [List.foldl_cons, timeF_le]
    unfold timeF
    by_cases hh : hasV deps x.dot = true
    · rw [if_pos hh]
      constructor
      · rintro ⟨h1, h2⟩
        exact ⟨by omega, fun y hy hq => by rcases List.mem_cons.1 hy with rfl | hy; omega; exact h2 y hy hq⟩
      · rintro ⟨h1, h2⟩
        have := h2 x List.mem_cons_self hh
        exact ⟨by omega, fun y hy hq => h2 y (List.mem_cons_of_mem _ hy) hq⟩
    · rw [if_neg hh]
      constructor
      · rintro ⟨h1, h2⟩
        exact ⟨h1, fun y hy hq => by rcases List.mem_cons.1 hy with rfl | hy; exact absurd hq hh; exact h2 y hy hq⟩
      · rintro ⟨h1, h2⟩
        exact ⟨h1, fun y hy hq => h2 y (List.mem_cons_of_mem _ hy) hq⟩
theorem timeT_le {line : List Int} {last : Int} {l : List TxS} {deps : List Int} {m : Int} : timeT line last l deps ≤ m ↔ (if uptoB line deps then max 0 last else 0) ≤ m ∧ ∀ y ∈ l, hasV deps y.dot = true → y.time ≤ m := timeF_le
theorem timeT_same {line : List Int} {last : Int} {l s : List TxS} {deps : List Int} (h : ∀ y, hasV deps y.dot = true → (y ∈ s ↔ y ∈ l)) : timeT line last s deps = timeT line last l deps := by
  have key : ∀ m, timeT line last s deps ≤ m ↔ timeT line last l deps ≤ m := by
    intro m
    rw [timeT_le, timeT_le]
    exact and_congr Iff.rfl ⟨fun hh y hy hq => hh y ((h y hq).2 hy) hq, fun hh y hy hq => hh y ((h y hq).1 hy) hq⟩
  exact Int.le_antisymm ((key _).2 (Int.le_refl _)) ((key _).1 (Int.le_refl _))
theorem seqF_le {m : Int} : ∀ {l : List TxS} {n : Int}, l.foldl seqF n ≤ m ↔ n ≤ m ∧ ∀ y ∈ l, inQ3 y.seq 1 1048576 = true → y.seq ≤ m
  | [], n => by simp
  | x :: l, n => by
    rw [List.foldl_cons, seqF_le]
    unfold seqF
    by_cases hh : inQ3 x.seq 1 1048576 = true
    · rw [if_pos hh]
      constructor
      · rintro ⟨h1, h2⟩
        exact ⟨by omega, fun y hy hq => by rcases List.mem_cons.1 hy with rfl | hy; omega; exact h2 y hy hq⟩
      · rintro ⟨h1, h2⟩
        have := h2 x List.mem_cons_self hh
        exact ⟨by omega, fun y hy hq => h2 y (List.mem_cons_of_mem _ hy) hq⟩
    · rw [if_neg hh]
      constructor
      · rintro ⟨h1, h2⟩
        exact ⟨h1, fun y hy hq => by rcases List.mem_cons.1 hy with rfl | hy; exact absurd hq hh; exact h2 y hy hq⟩
      · rintro ⟨h1, h2⟩
        exact ⟨h1, fun y hy hq => h2 y (List.mem_cons_of_mem _ hy) hq⟩
theorem devT_iff {dev : Int} {l : List TxS} {y : TxS} : y ∈ devT dev l ↔ y ∈ l ∧ y.dev = dev := by
  unfold devT
  rw [List.mem_filter, beq_iff_eq]
theorem knownAt_le {line : List Int} {l : List TxS} {d m : Int} : knownAt line l d ≤ m ↔ ofV line d ≤ m ∧ ∀ y ∈ l, y.dev = d → inQ3 y.seq 1 1048576 = true → y.seq ≤ m := by
  unfold knownAt
  rw [seqF_le]
  exact and_congr Iff.rfl ⟨fun h y hy hd hq => h y (devT_iff.2 ⟨hy, hd⟩) hq, fun h y hy hq => h y (devT_iff.1 hy).1 (devT_iff.1 hy).2 hq⟩
theorem ofV_known {line : List Int} {l : List TxS} {d : Int} (h1 : 1 ≤ d) (h2 : d ≤ 64) : ofV (knownT line l) d = knownAt line l d := by
  unfold knownT
  rw [ofV_trim]
  obtain ⟨j, rfl⟩ : ∃ j : Nat, d = (j : Int) + 1 := ⟨(d - 1).toNat, by omega⟩
  rw [ofV_getD]
  unfold knownL
  rw [List.getD_eq_getElem?_getD, List.getElem?_map, List.getElem?_range (by omega)]; rfl
theorem ofV_known_out {line : List Int} {l : List TxS} {d : Int} (h : d < 1 ∨ 64 < d) : ofV (knownT line l) d = 0 := by
  unfold knownT
  rw [ofV_trim, ofV_out]
  rw [knownL_len]
  exact h

/-! ### Closed sets -/
theorem rightVec_bd {v : List Int} (h : rightVec v = true) : v.length ≤ 64 ∧ ∀ d, 0 ≤ ofV v d ∧ ofV v d ≤ 1048576 := by
  unfold rightVec at h
  rw [Bool.and_eq_true, decide_eq_true_eq, Bool.not_eq_true', List.any_eq_false] at h
  refine ⟨h.1, fun d => ?_⟩
  by_cases hd : d < 1 ∨ (v.length : Int) < d
  · rw [ofV_out hd]; omega
  · obtain ⟨j, rfl⟩ : ∃ j : Nat, d = (j : Int) + 1 := ⟨(d - 1).toNat, by omega⟩
    have hj : j < v.length := by omega
    rw [ofV_at hj rfl]
    have := h.2 v[j] (List.getElem_mem hj)
    simp [badI] at this
    omega
theorem hasV_iff {deps : List Int} {y : TxS} : hasV deps y.dot = true ↔ 1 ≤ y.seq ∧ y.seq ≤ ofV deps y.dev := by
  unfold hasV TxS.dot
  simp
structure Ab (line : List Int) (last : Int) (l : List TxS) (x : TxS) : Prop where
  lo : UptoV line x.deps
  hi : UptoV x.deps (knownT line l)
  pl : ∀ d, ofV line d < ofV x.deps d → ∃ y ∈ l, y.dev = d ∧ y.seq = ofV x.deps d ∧ UptoV y.deps x.deps
  run : ∀ n, ofV line x.dev < n → n < x.seq → ∃ y ∈ l, y.dev = x.dev ∧ y.seq = n
  tm : rightT x.time (timeT line last l x.deps) = 0
structure Tx1 (line : List Int) (x : TxS) : Prop where
  dev1 : 1 ≤ x.dev
  dev2 : x.dev ≤ 64
  seq1 : 1 ≤ x.seq
  seq2 : x.seq ≤ 1048576
  deps : rightVec x.deps = true
  own : ofV x.deps x.dev = x.seq - 1
structure Cl (line : List Int) (last : Int) (l : List TxS) : Prop where
  nd : Nd l
  one : ∀ x ∈ l, Tx1 line x
  up : ∀ x ∈ l, ofV line x.dev < x.seq → Ab line last l x
  down : ∀ x ∈ l, ¬ ofV line x.dev < x.seq → x.fm = false ∧ UptoV x.deps line
  right : rightVec line = true
  last0 : inQ3 last 0 1125899906842624 = true
theorem above_iff {line : List Int} {last : Int} {l : List TxS} {x : TxS} (hn : Nd l) (h0 : ∀ d, 0 ≤ ofV line d) : aboveT line last l (knownT line l) x.dev x.seq x.time x.deps = true ↔ Ab line last l x := by
  unfold aboveT
  by_cases h1 : uptoB line x.deps = true
  case neg => rw [if_pos (by simpa using h1)]; exact ⟨fun h => (by cases h), fun h => absurd (uptoB_iff.2 h.lo) h1⟩
  rw [if_neg (by rw [h1]; simp)]
  by_cases h2 : uptoB x.deps (knownT line l) = true
  case neg => rw [if_pos (by simpa using h2)]; exact ⟨fun h => (by cases h), fun h => absurd (uptoB_iff.2 h.hi) h2⟩
  rw [if_neg (by rw [h2]; simp)]
  have h3 : (List.range x.deps.length).all (depOk line l x.deps) = true ↔ ∀ d, ofV line d < ofV x.deps d → ∃ y ∈ l, y.dev = d ∧ y.seq = ofV x.deps d ∧ UptoV y.deps x.deps := by
    rw [List.all_eq_true]
    constructor
    · intro h d hd
      by_cases ho : d < 1 ∨ (x.deps.length : Int) < d
      · rw [ofV_out ho] at hd; have := h0 d; omega
      · obtain ⟨j, rfl⟩ : ∃ j : Nat, d = (j : Int) + 1 := ⟨(d - 1).toNat, by omega⟩
        have := h j (List.mem_range.2 (by omega))
        unfold depOk at this
        rw [← ofV_getD, decide_eq_false (by omega), Bool.false_or] at this
        cases hf : findD ((j : Int) + 1) (ofV x.deps ((j : Int) + 1)) l with
        | none => rw [hf] at this; cases this
        | some y =>
          rw [hf] at this
          obtain ⟨e1, e2, e3⟩ := findD_some hf
          exact ⟨y, e1, e2, e3, uptoB_iff.1 this⟩
    · intro h j hj
      unfold depOk
      rw [← ofV_getD]
      by_cases hd : ofV x.deps ((j : Int) + 1) ≤ ofV line ((j : Int) + 1)
      · rw [decide_eq_true hd, Bool.true_or]
      · obtain ⟨y, e1, e2, e3, e4⟩ := h ((j : Int) + 1) (by omega)
        have := hn.find e1
        rw [e2, e3] at this
        rw [this, decide_eq_false hd, Bool.false_or]
        exact uptoB_iff.2 e4
  by_cases h3' : (List.range x.deps.length).all (depOk line l x.deps) = true
  case neg => rw [if_pos (by simpa using h3')]; exact ⟨fun h => (by cases h), fun h => absurd (h3.2 h.pl) h3'⟩
  rw [if_neg (by rw [h3']; simp)]
  have h4 : runOk l x.dev (ofV line x.dev) x.seq = true ↔ ∀ n, ofV line x.dev < n → n < x.seq → ∃ y ∈ l, y.dev = x.dev ∧ y.seq = n := by
    unfold runOk
    rw [List.all_eq_true]
    constructor
    · intro h n hn1 hn2
      have := h (n - ofV line x.dev - 1).toNat (List.mem_range.2 (by omega))
      rw [show ofV line x.dev + 1 + (((n - ofV line x.dev - 1).toNat : Nat) : Int) = n by omega] at this
      obtain ⟨y, hy⟩ := Option.isSome_iff_exists.1 this
      obtain ⟨e1, e2, e3⟩ := findD_some hy
      exact ⟨y, e1, e2, e3⟩
    · intro h j hj
      have hj := List.mem_range.1 hj
      obtain ⟨y, e1, e2, e3⟩ := h (ofV line x.dev + 1 + (j : Int)) (by omega) (by omega)
      have := hn.find e1
      rw [e2, e3] at this
      rw [this]; rfl
  by_cases h4' : runOk l x.dev (ofV line x.dev) x.seq = true
  case neg => rw [if_pos (by simpa using h4')]; exact ⟨fun h => (by cases h), fun h => absurd (h4.2 h.run) h4'⟩
  rw [if_neg (by rw [h4']; simp), beq_iff_eq]
  exact ⟨fun h => ⟨uptoB_iff.1 h1, uptoB_iff.1 h2, h3.1 h3', h4.1 h4', h⟩, fun h => h.tm⟩
theorem may_iff {line : List Int} {last : Int} {l : List TxS} {x : TxS} (hn : Nd l) (h0 : ∀ d, 0 ≤ ofV line d) : mayX line last l (knownT line l) x = true ↔ Tx1 line x ∧ (ofV line x.dev < x.seq → Ab line last l x) ∧ (¬ ofV line x.dev < x.seq → x.fm = false ∧ UptoV x.deps line) := by
  unfold mayX mayT
  by_cases h1 : inQ3 x.dev 1 64 = true
  case neg => rw [if_pos (by simpa using h1)]; exact ⟨fun h => (by cases h), fun h => absurd (by unfold inQ3; simp [h.1.dev1, h.1.dev2]) h1⟩
  rw [if_neg (by rw [h1]; simp)]
  by_cases h2 : inQ3 x.seq 1 1048576 = true
  case neg => rw [if_pos (by simpa using h2)]; exact ⟨fun h => (by cases h), fun h => absurd (by unfold inQ3; simp [h.1.seq1, h.1.seq2]) h2⟩
  rw [if_neg (by rw [h2]; simp)]
  by_cases h3 : rightVec x.deps = true
  case neg => rw [if_pos (by simpa using h3)]; exact ⟨fun h => (by cases h), fun h => absurd h.1.deps h3⟩
  rw [if_neg (by rw [h3]; simp)]
  by_cases h4 : ofV x.deps x.dev = x.seq - 1
  case neg => rw [if_pos (by simpa using h4)]; exact ⟨fun h => (by cases h), fun h => absurd h.1.own h4⟩
  rw [if_neg (by simp [h4])]
  have ht : Tx1 line x := ⟨(inQ3_bd h1).1, (inQ3_bd h1).2, (inQ3_bd h2).1, (inQ3_bd h2).2, h3, h4⟩
  by_cases h5 : ofV line x.dev < x.seq
  · rw [if_pos h5, above_iff hn h0]
    exact ⟨fun h => ⟨ht, fun _ => h, fun h' => absurd h5 h'⟩, fun h => h.2.1 h5⟩
  · rw [if_neg h5, Bool.and_eq_true, Bool.not_eq_true', uptoB_iff]
    exact ⟨fun h => ⟨ht, fun h' => absurd h' h5, fun _ => h⟩, fun h => h.2.2 h5⟩
theorem closed_iff {line : List Int} {last : Int} {l : List TxS} : closedT line last l = true ↔ Cl line last l := by
  unfold closedT
  by_cases h1 : dotsOk l = true
  case neg => rw [if_pos (by simpa using h1)]; exact ⟨fun h => (by cases h), fun h => absurd (dotsOk_iff.2 h.nd) h1⟩
  rw [if_neg (by rw [h1]; simp)]
  have hn := dotsOk_iff.1 h1
  constructor
  · intro h
    by_cases h2 : l.all (mayX line last l (knownT line l)) = true
    case neg => rw [if_pos (by simpa using h2)] at h; cases h
    rw [if_neg (by rw [h2]; simp), Bool.and_eq_true] at h
    have h0 := fun d => ((rightVec_bd h.1).2 d).1
    have h2 := List.all_eq_true.1 h2
    exact ⟨hn, fun x hx => ((may_iff hn h0).1 (h2 x hx)).1, fun x hx => ((may_iff hn h0).1 (h2 x hx)).2.1, fun x hx => ((may_iff hn h0).1 (h2 x hx)).2.2, h.1, h.2⟩
  · intro h
    have h0 := fun d => ((rightVec_bd h.right).2 d).1
    rw [if_neg, h.right, h.last0]; rfl
    rw [List.all_eq_true.2 fun x hx => (may_iff hn h0).2 ⟨h.one x hx, h.up x hx, h.down x hx⟩]
    simp

section
variable {line : List Int} {last : Int} {l : List TxS}
theorem Cl.time (h : Cl line last l) {x y : TxS} (hx : x ∈ l) (hu : ofV line x.dev < x.seq) (hy : y ∈ l) (hh : hasV x.deps y.dot = true) : y.time < x.time := by
  have ht := (h.up x hx hu).tm
  have := (timeT_le (m := timeT line last l x.deps)).1 (Int.le_refl _)
  have := this.2 y hy hh
  unfold rightT at ht
  split at ht
  · cases ht
  · omega
/-- What a part that has what each of its own stands on is. -/
theorem Cl.sub (h : Cl line last l) {s : List TxS} (hab : ∀ x ∈ s, ofV line x.dev < x.seq) (hs : ∀ x ∈ s, x ∈ l) (hn : Nd s) (hd : ∀ x ∈ s, ∀ y ∈ l, hasV x.deps y.dot = true → y ∈ s) : Cl line last s := by
  refine ⟨hn, fun x hx => h.one x (hs x hx), fun x hx hu => ?_, fun x hx hu => absurd (hab x hx) hu, h.right, h.last0⟩
  have A := h.up x (hs x hx) hu
  have T := h.one x (hs x hx)
  have hdp := rightVec_bd T.deps
  refine ⟨A.lo, fun d => ?_, fun d hl => ?_, fun n h1 h2 => ?_, ?_⟩
  · by_cases ho : d < 1 ∨ 64 < d
    · rw [ofV_known_out ho, ofV_out (by omega)]
      exact Int.le_refl _
    · rw [ofV_known (by omega) (by omega)]
      have hk := (knownAt_le (m := knownAt line s d)).1 (Int.le_refl _)
      by_cases hl : ofV line d < ofV x.deps d
      · obtain ⟨y, e1, e2, e3, -⟩ := A.pl d hl
        have ty := h.one y e1
        have hy := hd x hx y e1 (hasV_iff.2 ⟨ty.seq1, by rw [e2, e3]; exact Int.le_refl _⟩)
        rw [← e3]
        exact hk.2 y hy e2 (by unfold inQ3; simp [ty.seq1, ty.seq2])
      · have := hk.1; omega
  · obtain ⟨y, e1, e2, e3, e4⟩ := A.pl d hl
    have ty := h.one y e1
    exact ⟨y, hd x hx y e1 (hasV_iff.2 ⟨ty.seq1, by rw [e2, e3]; exact Int.le_refl _⟩), e2, e3, e4⟩
  · obtain ⟨y, e1, e2, e3⟩ := A.run n h1 h2
    have ty := h.one y e1
    exact ⟨y, hd x hx y e1 (hasV_iff.2 ⟨ty.seq1, by rw [e2, e3, T.own]; omega⟩), e2, e3⟩
  · rw [timeT_same (l := l) fun y hq => ⟨fun hy => hs y hy, fun hy => hd x hx y hy hq⟩]
    exact A.tm
theorem Cl.chain (h : Cl line last l) (hab : ∀ x ∈ l, ofV line x.dev < x.seq) {x : TxS} (hx : x ∈ l) : ∀ (k : Nat) (z : TxS), z ∈ l → z.dev = x.dev → z.seq = x.seq + (k : Int) → UptoV x.deps z.deps := by
  intro k
  induction k with
  | zero =>
    intro z hz h1 h2
    rw [h.nd.eq hz hx h1 (by omega)]
    exact fun d => Int.le_refl _
  | succ k ih =>
    intro z hz h1 h2
    have A := h.up z hz (hab z hz)
    have T := h.one z hz
    have hxl := hab x hx
    obtain ⟨y, e1, e2, e3, e4⟩ := A.pl z.dev (by rw [T.own, h1]; omega)
    rw [T.own] at e3
    have := ih y e1 (e2.trans h1) (by omega)
    exact fun d => Int.le_trans (this d) (e4 d)
/-- What one stands on has what that stands on. -/
theorem Cl.deep (h : Cl line last l) (hab : ∀ x ∈ l, ofV line x.dev < x.seq) {t x y : TxS} (ht : t ∈ l) (hx : x ∈ l) (hh : hasV t.deps x.dot = true) (hy : hasV x.deps y.dot = true) : hasV t.deps y.dot = true := by
  have A := h.up t ht (hab t ht)
  have q1 := hasV_iff.1 hh
  have q2 := hasV_iff.1 hy
  obtain ⟨z, e1, e2, e3, e4⟩ := A.pl x.dev (by have := hab x hx; omega)
  have := h.chain hab hx (ofV t.deps x.dev - x.seq).toNat z e1 e2 (by omega)
  have := this y.dev
  have := e4 y.dev
  exact hasV_iff.2 ⟨q2.1, by omega⟩
theorem nd_ord (h : Nd l) : Nd (ordT l) := h.perm (ordT_perm l)
theorem pastT_iff {deps : List Int} {x : TxS} : x ∈ pastT l deps ↔ x ∈ l ∧ hasV deps x.dot = true := by
  unfold pastT
  rw [List.mem_filter, ordT_iff]
/-- Each beginning of the order is closed. -/
theorem Cl.begin (h : Cl line last l) (hab : ∀ x ∈ l, ofV line x.dev < x.seq) (n : Nat) : Cl line last ((ordT l).take n) := by
  have hs : ∀ x ∈ (ordT l).take n, x ∈ l := fun x hx => ordT_iff.1 (List.mem_of_mem_take hx)
  refine h.sub (fun x hx => hab x (hs x hx)) hs ((nd_ord h.nd).sub (List.take_sublist _ _)) fun x hx y hy hh => ?_
  have ht := h.time (hs x hx) (hab x (hs x hx)) hy hh
  obtain ⟨i, hi, rfl⟩ := List.mem_take_iff_getElem.1 hx
  obtain ⟨k, hk, rfl⟩ := List.mem_iff_getElem.1 (ordT_iff.2 hy)
  refine List.mem_take_iff_getElem.2 ⟨k, ?_, rfl⟩
  rcases Nat.lt_or_ge i k with h1 | h1
  · have := ordT_time (l := l) (List.getElem?_eq_getElem (by omega)) (List.getElem?_eq_getElem hk) h1
    omega
  · omega
theorem Cl.past (h : Cl line last l) (hab : ∀ x ∈ l, ofV line x.dev < x.seq) {t : TxS} (ht : t ∈ l) : Cl line last (pastT l t.deps) := by
  refine h.sub (fun x hx => hab x (pastT_iff.1 hx).1) (fun x hx => (pastT_iff.1 hx).1) ((nd_ord h.nd).sub List.filter_sublist) fun x hx y hy hh => ?_
  have hx := pastT_iff.1 hx
  exact pastT_iff.2 ⟨hy, h.deep hab ht hx.1 hx.2 hh⟩
theorem Cl.with (h : Cl line last l) (hab : ∀ x ∈ l, ofV line x.dev < x.seq) {t : TxS} (ht : t ∈ l) : Cl line last (pastT l t.deps ++ [t]) := by
  have hs : ∀ x ∈ pastT l t.deps ++ [t], x ∈ l := fun x hx => by
    rcases List.mem_append.1 hx with hx | hx
    · exact (pastT_iff.1 hx).1
    · rw [List.mem_singleton.1 hx]; exact ht
  refine h.sub (fun x hx => hab x (hs x hx)) hs ?_ fun x hx y hy hh => List.mem_append.2 (.inl (pastT_iff.2 ⟨hy, ?_⟩))
  · refine List.pairwise_append.2 ⟨(nd_ord h.nd).sub List.filter_sublist, List.pairwise_singleton _ _, fun a ha b hb hab' => ?_⟩
    rw [List.mem_singleton.1 hb] at hab'
    have := hasV_iff.1 (pastT_iff.1 ha).2
    rw [hab'.1, (h.one t ht).own] at this
    omega
  · rcases List.mem_append.1 hx with hx | hx
    · have hx := pastT_iff.1 hx
      exact h.deep hab ht hx.1 hx.2 hh
    · rwa [List.mem_singleton.1 hx] at hh
/-- What it stands on is there. -/
theorem Cl.known (h : Cl line last l) {t : TxS} (ht : t ∈ l) (hu : ofV line t.dev < t.seq) : SameV (knownT line (pastT l t.deps)) t.deps := by
  have A := h.up t ht hu
  have T := h.one t ht
  have hdp := rightVec_bd T.deps
  intro d
  by_cases ho : d < 1 ∨ 64 < d
  · rw [ofV_known_out ho, ofV_out (by omega)]
  · rw [ofV_known (by omega) (by omega)]
    refine Int.le_antisymm (knownAt_le.2 ⟨A.lo d, fun y hy hd _ => ?_⟩) ?_
    · have := hasV_iff.1 (pastT_iff.1 hy).2
      rw [hd] at this
      exact this.2
    · have hk := (knownAt_le (m := knownAt line (pastT l t.deps) d)).1 (Int.le_refl _)
      by_cases hl : ofV line d < ofV t.deps d
      · obtain ⟨y, e1, e2, e3, -⟩ := A.pl d hl
        have ty := h.one y e1
        rw [← e3]
        exact hk.2 y (pastT_iff.2 ⟨e1, hasV_iff.2 ⟨ty.seq1, by rw [e2, e3]; exact Int.le_refl _⟩⟩) e2 (by unfold inQ3; simp [ty.seq1, ty.seq2])
      · have := hk.1; omega
/-- Two pasts together. -/
theorem Cl.both (h : Cl line last l) (hab : ∀ x ∈ l, ofV line x.dev < x.seq) {t u : TxS} (ht : t ∈ l) (hu : u ∈ l) {s : List TxS} (hs : ∀ x, x ∈ s ↔ x ∈ pastT l t.deps ∨ x ∈ pastT l u.deps) (hn : Nd s) : Cl line last s := by
  have hs' : ∀ x ∈ s, x ∈ l := fun x hx => by rcases (hs x).1 hx with hx | hx <;> exact (pastT_iff.1 hx).1
  refine h.sub (fun x hx => hab x (hs' x hx)) hs' hn fun x hx y hy hh => (hs y).2 ?_
  rcases (hs x).1 hx with hx | hx
  · have hx := pastT_iff.1 hx
    exact .inl (pastT_iff.2 ⟨hy, h.deep hab ht hx.1 hx.2 hh⟩)
  · have hx := pastT_iff.1 hx
    exact .inr (pastT_iff.2 ⟨hy, h.deep hab hu hx.1 hx.2 hh⟩)
end
theorem known_join {line : List Int} {a b s : List TxS} (hs : ∀ x, x ∈ s ↔ x ∈ a ∨ x ∈ b) : SameV (knownT line s) (joinV (knownT line a) (knownT line b)) := by
  intro d
  rw [ofV_joinV]
  by_cases ho : d < 1 ∨ 64 < d
  · rw [ofV_known_out ho, ofV_known_out ho, ofV_known_out ho]; rfl
  · rw [ofV_known (by omega) (by omega), ofV_known (by omega) (by omega), ofV_known (by omega) (by omega)]
    have ha := (knownAt_le (line := line) (l := a) (d := d) (m := knownAt line a d)).1 (Int.le_refl _)
    have hb := (knownAt_le (line := line) (l := b) (d := d) (m := knownAt line b d)).1 (Int.le_refl _)
    have hk := (knownAt_le (line := line) (l := s) (d := d) (m := knownAt line s d)).1 (Int.le_refl _)
    refine Int.le_antisymm (knownAt_le.2 ⟨by omega, fun y hy hd hq => ?_⟩) ?_
    · rcases (hs y).1 hy with hy | hy
      · have := ha.2 y hy hd hq; omega
      · have := hb.2 y hy hd hq; omega
    · have h1 : knownAt line a d ≤ knownAt line s d := knownAt_le.2 ⟨hk.1, fun y hy hd hq => hk.2 y ((hs y).2 (.inl hy)) hd hq⟩
      have h2 : knownAt line b d ≤ knownAt line s d := knownAt_le.2 ⟨hk.1, fun y hy hd hq => hk.2 y ((hs y).2 (.inr hy)) hd hq⟩
      omega
end Go.Proofs.YtnolbabpkhdpmaaGreat
