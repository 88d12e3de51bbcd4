/-
  Layer 4 (clock): the order of stamps.
-/
import Derived.Test.YtnolbabpkhdpmaaGreatTC
import Derived.Test.YtnolbabpkhdpmaaGreatSF
namespace Go.Proofs.YtnolbabpkhdpmaaGreat
open Go.RowKit Go.Sort Go.BigFrame

def stCs (l : List Stp) : List Value := l.flatMap Stp.cs

theorem stCs_length (l : List Stp) : (stCs l).length = l.length * 3 := by
  induction l with
  | nil => rfl
  | cons a l ih =>
    have : stCs (a :: l) = a.cs ++ stCs l := rfl
    rw [this, List.length_append, ih, List.length_cons]
    simp [Stp.cs]; omega

theorem stCs_at (l : List Stp) (k : Nat) (hk : k < l.length) : (stCs l)[k * 3]? = some (.int .i64 l[k].t) ∧ (stCs l)[k * 3 + 1]? = some (.int .i64 l[k].d) ∧ (stCs l)[k * 3 + 2]? = some (.int .i64 l[k].s) := by
  induction l generalizing k with
  | nil => cases hk
  | cons a l ih =>
    have he : stCs (a :: l) = a.cs ++ stCs l := rfl
    have hc : a.cs.length = 3 := rfl
    cases k with
    | zero => exact ⟨rfl, rfl, rfl⟩
    | succ k =>
      have := ih k (by simpa using hk)
      rw [he]
      refine ⟨?_, ?_, ?_⟩
      · rw [List.getElem?_append_right (by omega)]; rw [show (k + 1) * 3 - a.cs.length = k * 3 by omega]; exact this.1
      · rw [List.getElem?_append_right (by omega)]; rw [show (k + 1) * 3 + 1 - a.cs.length = k * 3 + 1 by omega]; exact this.2.1
      · rw [List.getElem?_append_right (by omega)]; rw [show (k + 1) * 3 + 2 - a.cs.length = k * 3 + 2 by omega]; exact this.2.2

theorem elSt : El Tryz.prog 81 83 3 24 (.agg #[.int .i64 0, .int .i64 0, .int .i64 0]) := El.mk' (by kernel_rfl) (by kernel_rfl) rfl (by decide)

/-- The place of a stamp in a slice. -/
theorem rd_st {w : World} {ao : Option Addr} {n c : Nat} {l : List Stp} (h : Rd w (.slice ao n c) n (stCs l)) (hl : n = l.length) (k : Nat) (hk : k < l.length) :
    ∃ b o : Nat, (∀ W, (Instr.indexAt 81 (.slice ao n c) (.int .i64 (k : Int))).run Tryz.prog W = .ok (.pointer (some ⟨b, o, none⟩)) W) ∧ w.cell? ⟨b, o, none⟩ = some (.int .i64 l[k].t) ∧ w.cell? ⟨b, o + 1, none⟩ = some (.int .i64 l[k].d) ∧ w.cell? ⟨b, o + 2, none⟩ = some (.int .i64 l[k].s) ∧ b < w.heap.size := by
  subst hl
  obtain ⟨A, hA, _, hlt, hc⟩ := h.elem 3 k hk (stCs_length l) (by decide)
  obtain ⟨r0, r1, r2⟩ := stCs_at l k hk
  obtain ⟨u0, hu0, hc0⟩ := hc 0 (by decide)
  obtain ⟨u1, hu1, hc1⟩ := hc 1 (by decide)
  obtain ⟨u2, hu2, hc2⟩ := hc 2 (by decide)
  rw [Nat.add_zero, r0] at hu0
  rw [r1] at hu1
  rw [r2] at hu2
  cases hu0
  cases hu1
  cases hu2
  obtain ⟨b, o, s⟩ := A
  have hs : s = none := World.cell?_spot hc0
  subst hs
  exact ⟨b, o, fun W => run_indexAt_at elSt hA hk W, hc0, hc1, hc2, hlt⟩

/-- How the places of two stamps stand. -/
def cmpAt (l : List Stp) (i k : Int) : Int := cmpS (l.getD i.toNat ⟨0, 0, 0⟩) (l.getD k.toNat ⟨0, 0, 0⟩)

set_option maxRecDepth 100000 in
set_option maxHeartbeats 400000 in
theorem order1_any (l : List Stp) (ao : Option Addr) (c bx : Nat) (w : World) (h : Rd w (.slice ao l.length c) l.length (stCs l)) (hb : w.cell? ⟨bx, 0, none⟩ = some (.slice ao l.length c)) (_ : l.length ≤ 1000000) (i k : Int) (hi : 0 ≤ i ∧ i < l.length) (hk : 0 ≤ k ∧ k < l.length) :
    Calls Tryz.prog 69 #[.int .i64 i, .int .i64 k, .pointer (some ⟨bx, 0, none⟩)] w fun e w' => e = .returned (.int .i64 (cmpAt l i k)) ∧ Below w.heap.size w w' := by
  obtain ⟨i, rfl⟩ : ∃ i' : Nat, i = (i' : Int) := ⟨i.toNat, by omega⟩
  obtain ⟨k, rfl⟩ : ∃ k' : Nat, k = (k' : Int) := ⟨k.toNat, by omega⟩
  have hi' : i < l.length := by omega
  have hk' : k < l.length := by omega
  obtain ⟨b1, o1, x1, c0, c1, c2, _⟩ := rd_st h rfl i hi'
  obtain ⟨b2, o2, x2, d0, d1, d2, _⟩ := rd_st h rfl k hk'
  have hc : cmpAt l i k = cmpS l[i] l[k] := by simp [cmpAt, hi', hk']
  rw [hc]
  clear h hc
  go_enter Tryz.func69, Tryz.ntmps69
  go_wp2_with fail
  have cS : ∀ d os, Calls Tryz.prog 70 #[l[i].agg, l[k].agg] (grow (redrawn w d) os) fun e w'' => e = .returned (.int .i64 (cmpS l[i] l[k])) ∧ ∃ p : Regrown, w'' = grow (redrawn w p.d) p.os := fun d os => Calls.regrown_of (compare_any l[i] l[k] _)
  have kc0 := cell_regrown c0
  have kc1 := cell_regrown c1
  have kc2 := cell_regrown c2
  have kd0 := cell_regrown d0
  have kd1 := cell_regrown d1
  have kd2 := cell_regrown d2
  have khb := cell_regrown hb
  refine wp_region_quiet_below (by kernel_rfl) (by kernel_rfl) ?_
  repeat (go_big_quiet_step (first | exact cS _ _))
  refine wpQuiet_nil ?_
  intro _ hw'
  obtain ⟨⟨dq, osq⟩, hw''⟩ := hw'
  subst hw''
  clear kc0 kc1 kc2 kd0 kd1 kd2 khb cS
  have hb1 := below_regrown w dq osq
  generalize grow (redrawn w dq) osq = w1 at *
  replace c0 := cell_later hb1 c0
  replace c1 := cell_later hb1 c1
  replace c2 := cell_later hb1 c2
  replace d0 := cell_later hb1 d0
  replace d1 := cell_later hb1 d1
  replace d2 := cell_later hb1 d2
  replace hb := cell_later hb1 hb
  go_wp2_with fail
  go_ret
  exact ⟨rfl, hb1⟩

theorem lessS_iff (a b : Stp) : lessS a b = true ↔ a.t < b.t ∨ (a.t = b.t ∧ (a.d < b.d ∨ (a.d = b.d ∧ a.s < b.s))) := by
  unfold lessS
  by_cases h1 : a.t = b.t
  · by_cases h2 : a.d = b.d
    · simp [h1, h2]
    · simp [h1, h2]
  · simp [h1]

theorem lessS_false (a b : Stp) : lessS a b = false ↔ ¬ (a.t < b.t ∨ (a.t = b.t ∧ (a.d < b.d ∨ (a.d = b.d ∧ a.s < b.s)))) := by
  rw [← lessS_iff, Bool.not_eq_true]

instance : Inhabited Stp := ⟨⟨0, 0, 0⟩⟩

theorem swoS : SWO lessS where
  irrefl a := by rw [lessS_false]; omega
  trans a b c h1 h2 := by rw [lessS_iff] at *; omega
  ntrans a b c h1 h2 := by rw [lessS_false] at *; omega

theorem ltC_cmpAt (l : List Stp) (i k : Int) : ltC (cmpAt l) i k = lessS (l.getD i.toNat ⟨0, 0, 0⟩) (l.getD k.toNat ⟨0, 0, 0⟩) := cmpS_neg _ _

theorem swoAt (l : List Stp) : SWO (ltC (cmpAt l)) where
  irrefl a := by rw [ltC_cmpAt]; exact swoS.irrefl _
  trans a b c h1 h2 := by rw [ltC_cmpAt] at *; exact swoS.trans _ _ _ h1 h2
  ntrans a b c h1 h2 := by rw [ltC_cmpAt] at *; exact swoS.ntrans _ _ _ h1 h2

def upto (n : Nat) : List Int := (List.range n).map (fun i : Nat => (i : Int))
theorem upto_succ (n : Nat) : upto (n + 1) = upto n ++ [(n : Int)] := by simp [upto, List.range_succ]
theorem upto_mem {n : Nat} {x : Int} (h : x ∈ upto n) : 0 ≤ x ∧ x < n := by
  obtain ⟨k, hk, rfl⟩ := List.mem_map.1 h
  have := List.mem_range.1 hk
  omega

/-- The places of stamps, in order. -/
def orderL (l : List Stp) : List Int := isortL (ltC (cmpAt l)) (upto l.length)

theorem upto_length (n : Nat) : (upto n).length = n := by simp [upto]
theorem orderL_length (l : List Stp) : (orderL l).length = l.length := by rw [orderL, isortL_length, upto_length]

set_option maxRecDepth 100000 in
set_option maxHeartbeats 400000 in
theorem sortStable_any {w0 : World} {blk off n : Nat} {l0 : List Int} {g : Nat} {cb : Array Value} {cf : Int → Int → Int} {Q : Int → Prop} (C : CmpOk g cb cf Q w0 blk off n l0) (hQ0 : ∀ x ∈ l0, Q x) (W : World) (hW : SB en1 1 w0 blk off l0 W) (cap : Nat) :
    Calls Tryz.prog 68 #[.slice (some ⟨blk, off, none⟩) n cap, .func (.func g) #[] cb] W fun e W' => e = .returned (.tuple #[]) ∧ SB en1 1 w0 blk off (isortL (ltC cf) l0) W' := by
  have hc := stable_any C hQ0 W hW cap
  have HC := Lib.hid hc
  clear C hQ0 hW hc
  go_enter Tryz.func68, Tryz.ntmps68
  go_wp2_with fail
  refine HC.out.mono ?_
  rintro e w' ⟨rfl, h⟩
  have H := Lib.hid h
  clear h
  go_wp2_with fail
  go_end0
  exact ⟨rfl, H.out⟩

def OrdPost (w : World) (n : Nat) (o : List Int) (e : Ending) (w' : World) : Prop := ∃ v, e = .returned v ∧ Rd w' v n (o.map ic) ∧ Below w.heap.size w w'

set_option maxRecDepth 100000 in
set_option maxHeartbeats 1000000 in
theorem order_any (va : Value) (l : List Stp) (w : World) (h : Rd w va l.length (stCs l)) (hn : l.length ≤ 1000000) :
    Calls Tryz.prog 46 #[va] w (OrdPost w l.length (orderL l)) := by
  obtain ⟨ao, c, rfl, hnc, hcm, _, _⟩ := id h
  obtain ⟨n, hln⟩ : ∃ n, l.length = n := ⟨_, rfl⟩
  have HO := Lib.hid h
  have HLN := Lib.hid hln
  rw [hln] at hn hnc ⊢
  obtain ⟨cs, hcs, hmk⟩ := run_make_ints n hn
  have HCS := Lib.hid hcs
  clear h hcs hcm hln
  go_enter Tryz.func46, Tryz.ntmps46
  go_wp2_with fail
  have hold1 := below_alloc (w.alloc (.cells #[.slice ao n c] 81)) (.cells cs 3)
  have hrd : Rd (w.alloc (.cells #[.slice ao n c] 81)) (.slice ao l.length c) l.length (stCs l) := HO.out.later (below_alloc _ _)
  have hbx : (w.alloc (.cells #[.slice ao n c] 81)).cell? ⟨w.heap.size, 0, none⟩ = some (.slice ao n c) := by simp [go_sem]
  have hR : Rw en1 1 ((w.alloc (.cells #[.slice ao n c] 81)).alloc (.cells cs 3)) (w.heap.size + 1) 0 n (List.replicate n (0 : Int)) := by
    have hh := holds_new (w.alloc (.cells #[.slice ao n c] 81)) (fun x : Int => .int .i64 x) cs 3 (List.replicate n (0 : Int)) HCS.out
    exact ⟨fun _ => rfl, fun x v hv => by rw [List.mem_singleton.1 hv]; rfl, by simpa using hh, by simp, by simp⟩
  have hz1 : (w.alloc (.cells #[.slice ao n c] 81)).heap.size = w.heap.size + 1 := by simp
  have HB0 := Lib.hid (below_alloc w (.cells #[.slice ao n c] 81))
  have HOLD1 := Lib.hid hold1
  have HRD := Lib.hid hrd
  have HBX := Lib.hid hbx
  have HR := Lib.hid hR
  have HZ1 := Lib.hid hz1
  have H0 := Lib.hid hR.start
  clear hold1 hrd hbx hR hz1
  generalize (w.alloc (.cells #[.slice ao n c] 81)).alloc (.cells cs 3) = w0 at *
  generalize w.alloc (.cells #[.slice ao n c] 81) = wb at *
  go_loopw [10] (fun vi wr => ∃ k : Nat, k ≤ n ∧ vi = .int .i64 k ∧ Hid (SB en1 1 w0 (w.heap.size + 1) 0 (upto k ++ List.replicate (n - k) 0) wr)) (fun vi _ => n - (intOf vi).toNat)
  case atStart => exact ⟨0, Nat.zero_le _, rfl, H0.out⟩
  case round =>
    obtain ⟨k, hk, rfl, hsb⟩ := hrel
    rename World => wr
    by_cases hlt : k < n
    · have e1 : upto k ++ List.replicate (n - k) 0 = upto k ++ (0 : Int) :: List.replicate (n - (k + 1)) 0 := by
        rw [show n - k = (n - (k + 1)) + 1 by omega, List.replicate_succ]
      have hsb1 := hsb.out
      rw [e1] at hsb1
      have hln : (upto k ++ (0 : Int) :: List.replicate (n - (k + 1)) 0).length = n := by
        rw [List.length_append, List.length_cons, List.length_replicate, upto_length]; omega
      obtain ⟨c1, f1⟩ := hsb1.cell1 HR.out hln (i := k) (upto_length k).symm rfl
      have hst := hsb1.stored1 HR.out (i := k) (upto_length k).symm (y := (k : Int)) rfl
      have e2 : upto k ++ (k : Int) :: List.replicate (n - (k + 1)) 0 = upto (k + 1) ++ List.replicate (n - (k + 1)) 0 := by rw [upto_succ]; simp
      rw [e2] at hst
      rw [Nat.zero_add] at c1 f1 hst
      have HST := Lib.hid hst
      clear e1 hsb1 hln hst e2 hsb
      go_wp2_with fail
      go_roundw
      case rel => exact ⟨k + 1, by omega, by go_num, HST.out⟩
      case measure => simp [intOf]; omega
    · have hkn : k = n := by omega
      subst hkn
      have hsb1 := hsb.out
      rw [Nat.sub_self, List.replicate_zero, List.append_nil] at hsb1
      have hbw : Below wb.heap.size wb wr := hsb1.old HOLD1.out (by have := HZ1.out; omega)
      have hrow : Rw en1 1 wr (w.heap.size + 1) 0 k (upto k) := ⟨HR.out.hk, HR.out.h1, hsb1.holds HR.out (upto_length k), Nat.lt_of_lt_of_le HR.out.hblk hsb1.le, upto_length k⟩
      have hC : CmpOk 69 #[.pointer (some ⟨w.heap.size, 0, none⟩)] (cmpAt l) (fun x => 0 ≤ x ∧ x < (k : Int)) wr (w.heap.size + 1) 0 k (upto k) := by
        refine ⟨hrow, hn, enters_of Tryz.func69 (by kernel_rfl) rfl, ?_, swoAt l⟩
        intro l' W hl' hsbW x y hx hy
        have hbW : Below wb.heap.size wb W := hsbW.old hbw (by have := HZ1.out; omega)
        have hln := HLN.out
        have := order1_any l ao c w.heap.size W (HRD.out.later hbW) (by rw [hln]; exact cell_later hbW HBX.out) (by omega) x y (by rw [hln]; exact hx) (by rw [hln]; exact hy)
        exact this
      have hsort := sortStable_any hC (fun x hx => upto_mem hx) wr hrow.start k
      have hpost : ∀ W, SB en1 1 wr (w.heap.size + 1) 0 (isortL (ltC (cmpAt l)) (upto k)) W → Rd W (.slice (some ⟨w.heap.size + 1, 0, none⟩) k k) k ((orderL l).map ic) ∧ Below w.heap.size w W := by
        intro W hW
        have hbW : Below wb.heap.size wb W := hW.old hbw (by have := HZ1.out; omega)
        refine ⟨?_, ?_⟩
        · have := hW.rd1 hrow (by rw [isortL_length, upto_length]) (fun x => .int .i64 x) (fun _ => rfl) (Nat.le_refl _) (by unfold maxLen; omega)
          unfold orderL
          rw [HLN.out]; exact this
        · exact below_then HB0.out hbW
      have HS := Lib.hid hsort
      have HP := Lib.hid hpost
      clear hsb1 hbw hrow hC hsort hpost hsb
      go_wp2_with fail
      refine HS.out.mono ?_
      rintro e w' ⟨rfl, h⟩
      have HH := Lib.hid (HP.out _ h)
      clear h
      go_wp2_with fail
      go_ret
      exact ⟨_, rfl, HH.out.1, HH.out.2⟩
end Go.Proofs.YtnolbabpkhdpmaaGreat
