/-
  Layer 4 (clock): compare, Less.
-/
import Derived.Test.YtnolbabpkhdpmaaGreatT
import Derived.Test.YtnolbabpkhdpmaaGreatRI
import Derived.ChangeKeysEq
namespace Go.Proofs.YtnolbabpkhdpmaaGreat
open Go.RowKit Go.Sort Go.BigFrame

/-- A box of three cells. -/
structure Box3 (w : World) (g : Nat) (x y z : Value) : Prop where
  c0 : w.cell? ⟨g, 0, none⟩ = some x
  c1 : w.cell? ⟨g, 1, none⟩ = some y
  c2 : w.cell? ⟨g, 2, none⟩ = some z
  f0 : w.frozen? ⟨g, 0, none⟩ = false
  f1 : w.frozen? ⟨g, 1, none⟩ = false
  f2 : w.frozen? ⟨g, 2, none⟩ = false

theorem Box3.lt {w : World} {g : Nat} {x y z : Value} (h : Box3 w g x y z) : g < w.heap.size := World.block_lt_of_cell? _ _ h.c0
theorem Box3.later {w w' : World} {g : Nat} {x y z : Value} (h : Box3 w g x y z) (hb : Below w.heap.size w w') : Box3 w' g x y z :=
  ⟨cell_later hb h.c0, cell_later hb h.c1, cell_later hb h.c2, by rw [hb.frozen (p := ⟨g, 0, none⟩) h.lt]; exact h.f0, by rw [hb.frozen (p := ⟨g, 1, none⟩) h.lt]; exact h.f1, by rw [hb.frozen (p := ⟨g, 2, none⟩) h.lt]; exact h.f2⟩
theorem Box3.new (w : World) (x y z : Value) (T : TypeId) : Box3 (w.alloc (.cells #[x, y, z] T)) w.heap.size x y z := by
  constructor <;> simp [go_sem]
theorem Box3.set {w : World} {g : Nat} {x y z : Value} (h : Box3 w g x y z) (x' y' z' : Value) : Box3 (((w.setCell ⟨g, 0, none⟩ x').setCell ⟨g, 1, none⟩ y').setCell ⟨g, 2, none⟩ z') g x' y' z' := by
  have := h.c0; have := h.c1; have := h.c2; have := h.f0; have := h.f1; have := h.f2
  constructor <;> simp_all [go_sem]
theorem Box3.other {w : World} {g h : Nat} {x y z : Value} (b : Box3 w g x y z) (hne : h ≠ g) (x' y' z' : Value) : Box3 (((w.setCell ⟨h, 0, none⟩ x').setCell ⟨h, 1, none⟩ y').setCell ⟨h, 2, none⟩ z') g x y z := by
  have := b.c0; have := b.c1; have := b.c2; have := b.f0; have := b.f1; have := b.f2
  constructor <;> simp_all [go_sem, World.cell?_setCell_other]

theorem at3 {w : World} {g : Nat} {x y z : Value} (h0 : w.cell? ⟨g, 0, none⟩ = some x) (h1 : w.cell? ⟨g, 1, none⟩ = some y) (h2 : w.cell? ⟨g, 2, none⟩ = some z) : At w ⟨g, 0, none⟩ [x, y, z] := by
  intro j u hj
  rcases j with _ | _ | _ | j
  · cases hj; exact h0
  · cases hj; exact h1
  · cases hj; exact h2
  · simp at hj

def eqK (a b : Stp) : Bool := a.t == b.t && (a.d == b.d && a.s == b.s)

theorem eqK_iff (a b : Stp) : eqK a b = true ↔ a = b := by
  obtain ⟨t, d, s⟩ := a
  obtain ⟨t', d', s'⟩ := b
  simp [eqK]

theorem run_eqK (a b : Stp) (W : World) : (Op.equalIn 10000 124 (.agg #[.int .i64 a.t, .int .i64 a.d, .int .i64 a.s]) (.agg #[.int .i64 b.t, .int .i64 b.d, .int .i64 b.s])).run Tryz.prog W = .ok (eqK a b) W := by
  obtain ⟨i, hi, h0, h1, h2⟩ := info_parts (show (Tryz.prog.info? 3).map (fun i => (i.zero, i.size, i.bytes)) = some (some (.int .i64 0), 1, 8) by kernel_rfl)
  have hc : Tryz.prog.cellsOf 3 = 1 := by kernel_rfl
  rw [show (10000 : Nat) = 9999 + 1 from rfl, run_equalIn_array W 9999 _ _ (by kernel_rfl : Tryz.prog.underlying 124 = some (.array 3 3)) hi, hc]
  show (Op.eqItems 9999 3 1 _ _ [0, 1, 2]).run _ _ = _
  have hu := Tryz.underlying3
  have e1 : ∀ x y W, (Op.equalIn 9999 3 (.int .i64 x) (.int .i64 y)).run Tryz.prog W = .ok (x == y) W := fun x y W => run_equalIn_int W 9998 _ _ _ _ _ hu
  unfold eqK
  by_cases q1 : a.t = b.t
  · by_cases q2 : a.d = b.d
    · by_cases q3 : a.s = b.s <;> simp [Op.eqItems, part, isAgg, run_underlying hu, e1, q1, q2, q3]
    · simp [Op.eqItems, part, isAgg, run_underlying hu, e1, q1, q2]
  · simp [Op.eqItems, part, isAgg, run_underlying hu, e1, q1]

/-- What holds of 'x, y := key(a), key(b)', whatever has been done of it. -/
def CmpI (w2 : World) (a b : Stp) (d : Nat → Bool) (g h : Nat) (s5 s6 s7 s8 s9 s10 : Value) (wx : World) : Prop :=
  Below w2.heap.size w2 wx ∧ (d 0 = true → s7 = a.agg) ∧ (d 1 = true → s8 = a.agg) ∧ (d 2 = true → s9 = b.agg) ∧ (d 3 = true → s10 = b.agg) ∧
    (d 4 = true → s5 = .pointer (some ⟨g, 0, none⟩) ∧ w2.heap.size ≤ g ∧ ∃ x y z, Box3 wx g x y z ∧ (d 6 = true → x = .int .i64 a.t ∧ y = .int .i64 a.d ∧ z = .int .i64 a.s)) ∧
    (d 5 = true → s6 = .pointer (some ⟨h, 0, none⟩) ∧ w2.heap.size ≤ h ∧ ∃ x y z, Box3 wx h x y z ∧ (d 7 = true → x = .int .i64 b.t ∧ y = .int .i64 b.d ∧ z = .int .i64 b.s)) ∧
    (d 4 = true → d 5 = true → g ≠ h) ∧ (d 6 = true → d 4 = true) ∧ (d 7 = true → d 5 = true)

set_option maxRecDepth 100000 in
set_option maxHeartbeats 1000000 in
theorem compare_any (a b : Stp) (w : World) : Calls Tryz.prog 70 #[a.agg, b.agg] w fun e w' => e = .returned (.int .i64 (cmpS a b)) ∧ Below w.heap.size w w' := by
  go_enter Tryz.func70, Tryz.ntmps70
  go_wp2_with fail
  have hb0 : Below w.heap.size w ((w.alloc (.cells #[.int .i64 a.t, .int .i64 a.d, .int .i64 a.s] 83)).alloc (.cells #[.int .i64 b.t, .int .i64 b.d, .int .i64 b.s] 83)) := below_alloc_then (below_alloc _ _)
  have A : Box3 ((w.alloc (.cells #[.int .i64 a.t, .int .i64 a.d, .int .i64 a.s] 83)).alloc (.cells #[.int .i64 b.t, .int .i64 b.d, .int .i64 b.s] 83)) w.heap.size (.int .i64 a.t) (.int .i64 a.d) (.int .i64 a.s) := (Box3.new w _ _ _ _).later (below_alloc _ _)
  have B : Box3 ((w.alloc (.cells #[.int .i64 a.t, .int .i64 a.d, .int .i64 a.s] 83)).alloc (.cells #[.int .i64 b.t, .int .i64 b.d, .int .i64 b.s] 83)) (w.heap.size + 1) (.int .i64 b.t) (.int .i64 b.d) (.int .i64 b.s) := by
    have := Box3.new (w.alloc (.cells #[.int .i64 a.t, .int .i64 a.d, .int .i64 a.s] 83)) (.int .i64 b.t) (.int .i64 b.d) (.int .i64 b.s) 83
    simpa using this
  generalize ((w.alloc (.cells #[.int .i64 a.t, .int .i64 a.d, .int .i64 a.s] 83)).alloc (.cells #[.int .i64 b.t, .int .i64 b.d, .int .i64 b.s] 83)) = w2 at *
  refine wp_region_inv0 (by kernel_rfl) (by kernel_rfl) (by kernel_rfl) (fun d act wx => ∃ g h s5 s6 s7 s8 s9 s10, act = ⟨#[a.agg, b.agg, .pointer (some ⟨w.heap.size, 0, none⟩), .pointer (some ⟨w.heap.size + 1, 0, none⟩), .int .i64 0, s5, s6, s7, s8, s9, s10, undef, undef, undef, undef, undef, undef], []⟩ ∧ CmpI w2 a b d g h s5 s6 s7 s8 s9 s10 wx) ?_ ?_ ?_
  · exact ⟨0, 0, undef, undef, undef, undef, undef, undef, rfl, (Below.refl _ _).drew, (fun h => nomatch h), (fun h => nomatch h), (fun h => nomatch h), (fun h => nomatch h), (fun h => nomatch h), (fun h => nomatch h), (fun h => nomatch h), (fun h => nomatch h), (fun h => nomatch h)⟩
  · intro i hi o ho d hdep hd _ act wx hI K hK
    obtain ⟨g, h, s5, s6, s7, s8, s9, s10, rfl, k0, k1, k2, k3, k4, k5, k6, k7, k8, k9⟩ := hI
    have hi8 : i < 8 := hi
    obtain rfl | rfl | rfl | rfl | rfl | rfl | rfl | rfl : i = 0 ∨ i = 1 ∨ i = 2 ∨ i = 3 ∨ i = 4 ∨ i = 5 ∨ i = 6 ∨ i = 7 := by omega
    all_goals (cases ho; simp only [Region.binds, List.mem_cons, List.not_mem_nil, or_false, forall_eq_or_imp, forall_eq, forall_const] at hdep)
    · have A' := A.later k0
      have e0 := A'.c0; have e1 := A'.c1; have e2 := A'.c2
      have HK := Lib.hid hK
      clear hK A' hdep hi
      have K1 := Lib.hid k1; have K2 := Lib.hid k2; have K3 := Lib.hid k3; have K4 := Lib.hid k4; have K5 := Lib.hid k5; have K6 := Lib.hid k6; have K7 := Lib.hid k7; have K8 := Lib.hid k8; have K9 := Lib.hid k9; have HD := Lib.hid hd
      clear k1 k2 k3 k4 k5 k6 k7 k8 k9 hd
      go_simp
      refine HK.out _ _ ⟨g, h, s5, s6, _, s8, s9, s10, rfl, k0, fun _ => rfl, fun q => K2.out (by simpa using q), fun q => K3.out (by simpa using q), fun q => K4.out (by simpa using q), ?_, ?_, fun q q' => K7.out (by simpa using q) (by simpa using q'), fun q => by simpa using K8.out (by simpa using q), fun q => by simpa using K9.out (by simpa using q)⟩
      · intro q; simpa using K5.out (by simpa using q)
      · intro q; simpa using K6.out (by simpa using q)
    · obtain rfl := k1 hdep
      have HK := Lib.hid hK
      clear hK hdep hi
      have K1 := Lib.hid k1; have K2 := Lib.hid k2; have K3 := Lib.hid k3; have K4 := Lib.hid k4; have K5 := Lib.hid k5; have K6 := Lib.hid k6; have K7 := Lib.hid k7; have K8 := Lib.hid k8; have K9 := Lib.hid k9; have HD := Lib.hid hd
      clear k1 k2 k3 k4 k5 k6 k7 k8 k9 hd
      go_simp
      refine (key_any a _).mono ?_
      rintro e w' ⟨rfl, hb⟩
      refine HK.out _ _ ⟨g, h, s5, s6, _, _, s9, s10, rfl, below_then k0 hb, fun _ => rfl, fun _ => rfl, fun q => K3.out (by simpa using q), fun q => K4.out (by simpa using q), ?_, ?_, fun q q' => K7.out (by simpa using q) (by simpa using q'), fun q => by simpa using K8.out (by simpa using q), fun q => by simpa using K9.out (by simpa using q)⟩
      · intro q
        obtain ⟨r1, r2, x, y, z, r3, r4⟩ := K5.out (by simpa using q)
        exact ⟨r1, r2, x, y, z, r3.later hb, fun q => r4 (by simpa using q)⟩
      · intro q
        obtain ⟨r1, r2, x, y, z, r3, r4⟩ := K6.out (by simpa using q)
        exact ⟨r1, r2, x, y, z, r3.later hb, fun q => r4 (by simpa using q)⟩
    · have B' := B.later k0
      have e0 := B'.c0; have e1 := B'.c1; have e2 := B'.c2
      have HK := Lib.hid hK
      clear hK B' hdep hi
      have K1 := Lib.hid k1; have K2 := Lib.hid k2; have K3 := Lib.hid k3; have K4 := Lib.hid k4; have K5 := Lib.hid k5; have K6 := Lib.hid k6; have K7 := Lib.hid k7; have K8 := Lib.hid k8; have K9 := Lib.hid k9; have HD := Lib.hid hd
      clear k1 k2 k3 k4 k5 k6 k7 k8 k9 hd
      go_simp
      refine HK.out _ _ ⟨g, h, s5, s6, s7, s8, _, s10, rfl, k0, fun q => K1.out (by simpa using q), fun q => K2.out (by simpa using q), fun _ => rfl, fun q => K4.out (by simpa using q), ?_, ?_, fun q q' => K7.out (by simpa using q) (by simpa using q'), fun q => by simpa using K8.out (by simpa using q), fun q => by simpa using K9.out (by simpa using q)⟩
      · intro q; simpa using K5.out (by simpa using q)
      · intro q; simpa using K6.out (by simpa using q)
    · obtain rfl := k3 hdep.1
      have HK := Lib.hid hK
      clear hK hdep hi
      have K1 := Lib.hid k1; have K2 := Lib.hid k2; have K3 := Lib.hid k3; have K4 := Lib.hid k4; have K5 := Lib.hid k5; have K6 := Lib.hid k6; have K7 := Lib.hid k7; have K8 := Lib.hid k8; have K9 := Lib.hid k9; have HD := Lib.hid hd
      clear k1 k2 k3 k4 k5 k6 k7 k8 k9 hd
      go_simp
      refine (key_any b _).mono ?_
      rintro e w' ⟨rfl, hb⟩
      refine HK.out _ _ ⟨g, h, s5, s6, s7, s8, _, _, rfl, below_then k0 hb, fun q => K1.out (by simpa using q), fun q => K2.out (by simpa using q), fun _ => rfl, fun _ => rfl, ?_, ?_, fun q q' => K7.out (by simpa using q) (by simpa using q'), fun q => by simpa using K8.out (by simpa using q), fun q => by simpa using K9.out (by simpa using q)⟩
      · intro q
        obtain ⟨r1, r2, x, y, z, r3, r4⟩ := K5.out (by simpa using q)
        exact ⟨r1, r2, x, y, z, r3.later hb, fun q => r4 (by simpa using q)⟩
      · intro q
        obtain ⟨r1, r2, x, y, z, r3, r4⟩ := K6.out (by simpa using q)
        exact ⟨r1, r2, x, y, z, r3.later hb, fun q => r4 (by simpa using q)⟩
    · skip
      have HK := Lib.hid hK
      clear hK hdep hi
      have K1 := Lib.hid k1; have K2 := Lib.hid k2; have K3 := Lib.hid k3; have K4 := Lib.hid k4; have K5 := Lib.hid k5; have K6 := Lib.hid k6; have K7 := Lib.hid k7; have K8 := Lib.hid k8; have K9 := Lib.hid k9; have HD := Lib.hid hd
      clear k1 k2 k3 k4 k5 k6 k7 k8 k9 hd
      go_simp
      have hb : Below wx.heap.size wx (wx.alloc (.cells #[.int .i64 0, .int .i64 0, .int .i64 0] 124)) := below_alloc _ _
      refine HK.out _ _ ⟨wx.heap.size, h, _, s6, s7, s8, s9, s10, rfl, below_then k0 hb, fun q => K1.out (by simpa using q), fun q => K2.out (by simpa using q), fun q => K3.out (by simpa using q), fun q => K4.out (by simpa using q), ?_, ?_, ?_, fun q => rfl, fun q => by simpa using K9.out (by simpa using q)⟩
      · intro _
        refine ⟨rfl, k0.size, _, _, _, Box3.new wx _ _ _ _, fun q => ?_⟩
        have := K8.out (by simpa using q)
        rw [HD.out] at this; cases this
      · intro q
        obtain ⟨r1, r2, x, y, z, r3, r4⟩ := K6.out (by simpa using q)
        exact ⟨r1, r2, x, y, z, r3.later hb, fun q => r4 (by simpa using q)⟩
      · intro _ q
        obtain ⟨r1, r2, x, y, z, r3, r4⟩ := K6.out (by simpa using q)
        have := r3.lt
        omega
    · skip
      have HK := Lib.hid hK
      clear hK hdep hi
      have K1 := Lib.hid k1; have K2 := Lib.hid k2; have K3 := Lib.hid k3; have K4 := Lib.hid k4; have K5 := Lib.hid k5; have K6 := Lib.hid k6; have K7 := Lib.hid k7; have K8 := Lib.hid k8; have K9 := Lib.hid k9; have HD := Lib.hid hd
      clear k1 k2 k3 k4 k5 k6 k7 k8 k9 hd
      go_simp
      have hb : Below wx.heap.size wx (wx.alloc (.cells #[.int .i64 0, .int .i64 0, .int .i64 0] 124)) := below_alloc _ _
      refine HK.out _ _ ⟨g, wx.heap.size, s5, _, s7, s8, s9, s10, rfl, below_then k0 hb, fun q => K1.out (by simpa using q), fun q => K2.out (by simpa using q), fun q => K3.out (by simpa using q), fun q => K4.out (by simpa using q), ?_, ?_, ?_, fun q => by simpa using K8.out (by simpa using q), fun q => rfl⟩
      · intro q
        obtain ⟨r1, r2, x, y, z, r3, r4⟩ := K5.out (by simpa using q)
        exact ⟨r1, r2, x, y, z, r3.later hb, fun q => r4 (by simpa using q)⟩
      · intro _
        refine ⟨rfl, k0.size, _, _, _, Box3.new wx _ _ _ _, fun q => ?_⟩
        have := K9.out (by simpa using q)
        rw [HD.out] at this; cases this
      · intro q _
        obtain ⟨r1, r2, x, y, z, r3, r4⟩ := K5.out (by simpa using q)
        have := r3.lt
        omega
    · obtain ⟨r1, r2, x, y, z, r3, _⟩ := k5 hdep.1
      obtain rfl := r1
      obtain rfl := k2 hdep.2.1
      have g0 := r3.c0; have g1 := r3.c1; have g2 := r3.c2; have g3 := r3.f0; have g4 := r3.f1; have g5 := r3.f2
      have hgh := k7 hdep.1 (by simp_all)
      have HGH := Lib.hid hgh
      have HD4 := Lib.hid hdep.1
      clear hgh
      have HK := Lib.hid hK
      clear hK hdep hi
      have K1 := Lib.hid k1; have K2 := Lib.hid k2; have K3 := Lib.hid k3; have K4 := Lib.hid k4; have K5 := Lib.hid k5; have K6 := Lib.hid k6; have K7 := Lib.hid k7; have K8 := Lib.hid k8; have K9 := Lib.hid k9; have HD := Lib.hid hd
      clear k1 k2 k3 k4 k5 k6 k7 k8 k9 hd
      go_simp
      refine HK.out _ _ ⟨g, h, _, s6, s7, _, s9, s10, rfl, ((k0.setCell r2 _).setCell r2 _).setCell r2 _, fun q => K1.out (by simpa using q), fun q => K2.out (by simpa using q), fun q => K3.out (by simpa using q), fun q => K4.out (by simpa using q), ?_, ?_, fun q q' => K7.out (by simpa using q) (by simpa using q'), fun _ => by simpa using HD4.out, fun q => by simpa using K9.out (by simpa using q)⟩
      · intro q
        exact ⟨rfl, r2, _, _, _, r3.set _ _ _, fun _ => ⟨rfl, rfl, rfl⟩⟩
      · intro q
        obtain ⟨r1', r2', x', y', z', r3', r4'⟩ := K6.out (by simpa using q)
        exact ⟨r1', r2', x', y', z', r3'.other HGH.out _ _ _, fun q => r4' (by simpa using q)⟩
    · obtain ⟨r1, r2, x, y, z, r3, _⟩ := k6 hdep.1
      obtain rfl := r1
      obtain rfl := k4 hdep.2.1
      have g0 := r3.c0; have g1 := r3.c1; have g2 := r3.c2; have g3 := r3.f0; have g4 := r3.f1; have g5 := r3.f2
      have hgh := k7 (by simp_all) hdep.1
      have HGH := Lib.hid hgh
      have HD4 := Lib.hid hdep.1
      clear hgh
      have HK := Lib.hid hK
      clear hK hdep hi
      have K1 := Lib.hid k1; have K2 := Lib.hid k2; have K3 := Lib.hid k3; have K4 := Lib.hid k4; have K5 := Lib.hid k5; have K6 := Lib.hid k6; have K7 := Lib.hid k7; have K8 := Lib.hid k8; have K9 := Lib.hid k9; have HD := Lib.hid hd
      clear k1 k2 k3 k4 k5 k6 k7 k8 k9 hd
      go_simp
      refine HK.out _ _ ⟨g, h, s5, _, s7, s8, s9, _, rfl, ((k0.setCell r2 _).setCell r2 _).setCell r2 _, fun q => K1.out (by simpa using q), fun q => K2.out (by simpa using q), fun q => K3.out (by simpa using q), fun q => K4.out (by simpa using q), ?_, ?_, fun q q' => K7.out (by simpa using q) (by simpa using q'), fun q => by simpa using K8.out (by simpa using q), fun _ => by simpa using HD4.out⟩
      · intro q
        obtain ⟨r1', r2', x', y', z', r3', r4'⟩ := K5.out (by simpa using q)
        exact ⟨r1', r2', x', y', z', r3'.other (Ne.symm HGH.out) _ _ _, fun q => r4' (by simpa using q)⟩
      · intro q
        exact ⟨rfl, r2, _, _, _, r3.set _ _ _, fun _ => ⟨rfl, rfl, rfl⟩⟩
  · intro d act wx hI hall
    obtain ⟨g, h, s5, s6, s7, s8, s9, s10, rfl, k0, k1, k2, k3, k4, k5, k6, k7, k8, k9⟩ := hI
    obtain ⟨rfl, _, x, y, z, BA, hA⟩ := k5 (hall 4 (by decide))
    obtain ⟨rfl, _, x', y', z', BB, hB⟩ := k6 (hall 5 (by decide))
    obtain ⟨rfl, rfl, rfl⟩ := hA (hall 6 (by decide))
    obtain ⟨rfl, rfl, rfl⟩ := hB (hall 7 (by decide))
    have hbx : Below w.heap.size w wx := below_then hb0 k0
    have g0 := BA.c0; have g1 := BA.c1; have g2 := BA.c2; have h0 := BB.c0; have h1 := BB.c1; have h2 := BB.c2
    have HBX := Lib.hid hbx
    clear k0 k1 k2 k3 k4 k5 k6 k7 k8 k9 hall hA hB BA BB A B hb0 hbx
    have hE := run_eqK a b
    by_cases hab : a = b
    · have hk : eqK a b = true := (eqK_iff a b).2 hab
      have hz : cmpS a b = 0 := by subst hab; simp [cmpS, cmpI]
      have HZ := Lib.hid hz
      clear hz hab
      go_wp2_with fail
      go_ret
      exact ⟨ret_int HZ.out.symm, HBX.out⟩
    · have hk : eqK a b = false := by
        rw [Bool.eq_false_iff]; intro h; exact hab ((eqK_iff a b).1 h)
      have hca := cmpL_key a b
      have cC : ∀ d os, Calls Tryz.prog 92 #[.slice (some ⟨g, 0, none⟩) 3 3, .slice (some ⟨h, 0, none⟩) 3 3] (grow (redrawn wx d) os) fun e w'' => e = .returned (.int .i64 (cmpS a b)) ∧ ∃ p : Regrown, w'' = grow (redrawn wx p.d) p.os := by
        intro d os
        have hl := below_regrown wx d os
        refine Calls.regrown_of ?_
        refine (compareL_any (.slice (some ⟨g, 0, none⟩) 3 3) (.slice (some ⟨h, 0, none⟩) 3 3) [a.t, a.d, a.s] [b.t, b.d, b.s] _ ?_ ?_ rfl (by simp)).mono ?_
        · exact Rd.later ⟨_, _, rfl, Nat.le_refl _, by decide, (fun h => nomatch h), fun ad had => by cases had; exact at3 g0 g1 g2⟩ hl
        · exact Rd.later ⟨_, _, rfl, Nat.le_refl _, by decide, (fun h => nomatch h), fun ad had => by cases had; exact at3 h0 h1 h2⟩ hl
        · rintro e w' ⟨rfl, rfl⟩
          exact ⟨by rw [hca], Below.refl _ _⟩
      have HCA := Lib.hid hca
      clear hab hca
      go_wp2_with fail
      refine wp_region_quiet_below (by kernel_rfl) (by kernel_rfl) ?_
      repeat (go_big_quiet_step (first | exact cC _ _))
      refine wpQuiet_nil ?_
      intro _ hw'
      obtain ⟨⟨dq, osq⟩, hw''⟩ := hw'
      subst hw''
      clear cC
      have hb3 := below_regrown wx dq osq
      generalize grow (redrawn wx dq) osq = w3 at *
      go_wp2_with fail
      go_ret
      exact ⟨rfl, below_then HBX.out hb3⟩


set_option maxHeartbeats 400000 in
theorem refLess_any (a b : Stp) (w : World) : Calls Tryz.prog 111 #[a.agg, b.agg] w fun e w' => e = .returned (.bool (lessS a b)) ∧ Below w.heap.size w w' := by
  go_enter Tryz.func111, Tryz.ntmps111
  go_wp2
  all_goals (go_ret; refine ⟨ret_bool ?_, below_alloc_then (below_alloc _ _)⟩)
  all_goals (simp_all [lessS])
end Go.Proofs.YtnolbabpkhdpmaaGreat
