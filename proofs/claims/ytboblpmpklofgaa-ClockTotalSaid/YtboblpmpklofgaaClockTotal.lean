/-
  The law ClockTotal.
-/
import Derived.Test.YtboblpmpklofgaaTL
namespace Go.Proofs.Ytboblpmpklofgaa.clockTotal
open Go.ChangeShapes Go.WideShapes Go.ChangeAt Go.RowKit Go.Sort Go.BigFrame Go.Proofs.Ytboblpmpklofgaa
open Go.ChangeMaps (open_string shut_string)

set_option maxRecDepth 100000 in
set_option maxHeartbeats 4000000 in
theorem walk (a b c : Stp) (w : World) :
    Calls Try.prog 5 #[a.agg, b.agg, c.agg] w fun e w' => e = .returned (.bool true) ∧ Below w.heap.size w w' := by
  have A := ((Box3.new w (.int .i64 a.t) (.int .i64 a.d) (.int .i64 a.s) 23).later (below_alloc _ (.cells #[.int .i64 b.t, .int .i64 b.d, .int .i64 b.s] 23))).later (below_alloc _ (.cells #[.int .i64 c.t, .int .i64 c.d, .int .i64 c.s] 23))
  have B : Box3 (((w.alloc (.cells #[.int .i64 a.t, .int .i64 a.d, .int .i64 a.s] 23)).alloc (.cells #[.int .i64 b.t, .int .i64 b.d, .int .i64 b.s] 23)).alloc (.cells #[.int .i64 c.t, .int .i64 c.d, .int .i64 c.s] 23)) (w.heap.size + 1) (.int .i64 b.t) (.int .i64 b.d) (.int .i64 b.s) := by
    have := (Box3.new (w.alloc (.cells #[.int .i64 a.t, .int .i64 a.d, .int .i64 a.s] 23)) (.int .i64 b.t) (.int .i64 b.d) (.int .i64 b.s) 23).later (below_alloc _ (.cells #[.int .i64 c.t, .int .i64 c.d, .int .i64 c.s] 23))
    simpa using this
  have C : Box3 (((w.alloc (.cells #[.int .i64 a.t, .int .i64 a.d, .int .i64 a.s] 23)).alloc (.cells #[.int .i64 b.t, .int .i64 b.d, .int .i64 b.s] 23)).alloc (.cells #[.int .i64 c.t, .int .i64 c.d, .int .i64 c.s] 23)) (w.heap.size + 1 + 1) (.int .i64 c.t) (.int .i64 c.d) (.int .i64 c.s) := by
    have := Box3.new ((w.alloc (.cells #[.int .i64 a.t, .int .i64 a.d, .int .i64 a.s] 23)).alloc (.cells #[.int .i64 b.t, .int .i64 b.d, .int .i64 b.s] 23)) (.int .i64 c.t) (.int .i64 c.d) (.int .i64 c.s) 23
    simpa using this
  have HB := Lib.hid (below_alloc_then (below_alloc_then (below_alloc ((w.alloc (.cells #[.int .i64 a.t, .int .i64 a.d, .int .i64 a.s] 23)).alloc (.cells #[.int .i64 b.t, .int .i64 b.d, .int .i64 b.s] 23)) (.cells #[.int .i64 c.t, .int .i64 c.d, .int .i64 c.s] 23))))
  have HAB := Lib.hid (And.intro A (And.intro B C))
  clear A B C
  rcases Int.lt_trichotomy a.t b.t with h | h | h
  · skip
    have he : (a.t == b.t) = false := by simp; omega
    have hx : lessS a b = true := (lessS_iff a b).2 (by omega)
    have hy : lessS b a = false := (lessS_false b a).2 (by omega)
    have HX := Lib.hid hx
    have HY := Lib.hid hy
    clear hx hy
    clear h
    cases hz : lessS b c
    · have HZ := Lib.hid hz
      clear hz
      go_enter Try.func5, Try.ntmps5
      go_wp2_with fail
      refine (awake_any _).mono ?_
      rintro e w1 ⟨rfl, hb⟩
      obtain ⟨A, B, C⟩ := HAB.out
      replace A := A.later hb
      replace B := B.later hb
      replace C := C.later hb
      replace HB := Lib.hid (below_then HB.out hb)
      have a0 := A.c0; have a1 := A.c1; have a2 := A.c2; have a3 := B.c0; have a4 := B.c1; have a5 := B.c2; have a6 := C.c0; have a7 := C.c1; have a8 := C.c2
      clear hb HAB A B C
      go_wp2_with fail
      refine (less_any a b _).mono ?_
      rintro e w2 ⟨rfl, hb⟩
      rw [HX.out]
      replace HB := Lib.hid (below_then HB.out hb)
      replace a0 := cell_later hb a0; replace a1 := cell_later hb a1; replace a2 := cell_later hb a2; replace a3 := cell_later hb a3; replace a4 := cell_later hb a4; replace a5 := cell_later hb a5; replace a6 := cell_later hb a6; replace a7 := cell_later hb a7; replace a8 := cell_later hb a8
      clear hb
      go_wp2_with fail
      refine (less_any b a _).mono ?_
      rintro e w2 ⟨rfl, hb⟩
      rw [HY.out]
      replace HB := Lib.hid (below_then HB.out hb)
      replace a0 := cell_later hb a0; replace a1 := cell_later hb a1; replace a2 := cell_later hb a2; replace a3 := cell_later hb a3; replace a4 := cell_later hb a4; replace a5 := cell_later hb a5; replace a6 := cell_later hb a6; replace a7 := cell_later hb a7; replace a8 := cell_later hb a8
      clear hb
      go_wp2_with fail
      refine (less_any b c _).mono ?_
      rintro e w2 ⟨rfl, hb⟩
      rw [HZ.out]
      replace HB := Lib.hid (below_then HB.out hb)
      replace a0 := cell_later hb a0; replace a1 := cell_later hb a1; replace a2 := cell_later hb a2; replace a3 := cell_later hb a3; replace a4 := cell_later hb a4; replace a5 := cell_later hb a5; replace a6 := cell_later hb a6; replace a7 := cell_later hb a7; replace a8 := cell_later hb a8
      clear hb
      go_wp2_with fail
      refine (less_any a a _).mono ?_
      rintro e w2 ⟨rfl, hb⟩
      rw [swoS.irrefl a]
      replace HB := Lib.hid (below_then HB.out hb)
      replace a0 := cell_later hb a0; replace a1 := cell_later hb a1; replace a2 := cell_later hb a2; replace a3 := cell_later hb a3; replace a4 := cell_later hb a4; replace a5 := cell_later hb a5; replace a6 := cell_later hb a6; replace a7 := cell_later hb a7; replace a8 := cell_later hb a8
      clear hb
      go_wp2_with fail
      go_ret
      exact ⟨rfl, HB.out⟩
    · have HZ := Lib.hid hz
      have HT := Lib.hid (swoS.trans _ _ _ HX.out hz)
      clear hz
      go_enter Try.func5, Try.ntmps5
      go_wp2_with fail
      refine (awake_any _).mono ?_
      rintro e w1 ⟨rfl, hb⟩
      obtain ⟨A, B, C⟩ := HAB.out
      replace A := A.later hb
      replace B := B.later hb
      replace C := C.later hb
      replace HB := Lib.hid (below_then HB.out hb)
      have a0 := A.c0; have a1 := A.c1; have a2 := A.c2; have a3 := B.c0; have a4 := B.c1; have a5 := B.c2; have a6 := C.c0; have a7 := C.c1; have a8 := C.c2
      clear hb HAB A B C
      go_wp2_with fail
      refine (less_any a b _).mono ?_
      rintro e w2 ⟨rfl, hb⟩
      rw [HX.out]
      replace HB := Lib.hid (below_then HB.out hb)
      replace a0 := cell_later hb a0; replace a1 := cell_later hb a1; replace a2 := cell_later hb a2; replace a3 := cell_later hb a3; replace a4 := cell_later hb a4; replace a5 := cell_later hb a5; replace a6 := cell_later hb a6; replace a7 := cell_later hb a7; replace a8 := cell_later hb a8
      clear hb
      go_wp2_with fail
      refine (less_any b a _).mono ?_
      rintro e w2 ⟨rfl, hb⟩
      rw [HY.out]
      replace HB := Lib.hid (below_then HB.out hb)
      replace a0 := cell_later hb a0; replace a1 := cell_later hb a1; replace a2 := cell_later hb a2; replace a3 := cell_later hb a3; replace a4 := cell_later hb a4; replace a5 := cell_later hb a5; replace a6 := cell_later hb a6; replace a7 := cell_later hb a7; replace a8 := cell_later hb a8
      clear hb
      go_wp2_with fail
      refine (less_any b c _).mono ?_
      rintro e w2 ⟨rfl, hb⟩
      rw [HZ.out]
      replace HB := Lib.hid (below_then HB.out hb)
      replace a0 := cell_later hb a0; replace a1 := cell_later hb a1; replace a2 := cell_later hb a2; replace a3 := cell_later hb a3; replace a4 := cell_later hb a4; replace a5 := cell_later hb a5; replace a6 := cell_later hb a6; replace a7 := cell_later hb a7; replace a8 := cell_later hb a8
      clear hb
      go_wp2_with fail
      refine (less_any a c _).mono ?_
      rintro e w2 ⟨rfl, hb⟩
      rw [HT.out]
      replace HB := Lib.hid (below_then HB.out hb)
      replace a0 := cell_later hb a0; replace a1 := cell_later hb a1; replace a2 := cell_later hb a2; replace a3 := cell_later hb a3; replace a4 := cell_later hb a4; replace a5 := cell_later hb a5; replace a6 := cell_later hb a6; replace a7 := cell_later hb a7; replace a8 := cell_later hb a8
      clear hb
      go_wp2_with fail
      refine (less_any a a _).mono ?_
      rintro e w2 ⟨rfl, hb⟩
      rw [swoS.irrefl a]
      replace HB := Lib.hid (below_then HB.out hb)
      replace a0 := cell_later hb a0; replace a1 := cell_later hb a1; replace a2 := cell_later hb a2; replace a3 := cell_later hb a3; replace a4 := cell_later hb a4; replace a5 := cell_later hb a5; replace a6 := cell_later hb a6; replace a7 := cell_later hb a7; replace a8 := cell_later hb a8
      clear hb
      go_wp2_with fail
      go_ret
      exact ⟨rfl, HB.out⟩
  · rcases Int.lt_trichotomy a.d b.d with h' | h' | h'
    · have h1 : (a.t == b.t) = true := by simp [h]
      have he : (a.d == b.d) = false := by simp; omega
      have hx : lessS a b = true := (lessS_iff a b).2 (by omega)
      have hy : lessS b a = false := (lessS_false b a).2 (by omega)
      have HX := Lib.hid hx
      have HY := Lib.hid hy
      clear hx hy
      clear h h'
      cases hz : lessS b c
      · have HZ := Lib.hid hz
        clear hz
        go_enter Try.func5, Try.ntmps5
        go_wp2_with fail
        refine (awake_any _).mono ?_
        rintro e w1 ⟨rfl, hb⟩
        obtain ⟨A, B, C⟩ := HAB.out
        replace A := A.later hb
        replace B := B.later hb
        replace C := C.later hb
        replace HB := Lib.hid (below_then HB.out hb)
        have a0 := A.c0; have a1 := A.c1; have a2 := A.c2; have a3 := B.c0; have a4 := B.c1; have a5 := B.c2; have a6 := C.c0; have a7 := C.c1; have a8 := C.c2
        clear hb HAB A B C
        go_wp2_with fail
        refine (less_any a b _).mono ?_
        rintro e w2 ⟨rfl, hb⟩
        rw [HX.out]
        replace HB := Lib.hid (below_then HB.out hb)
        replace a0 := cell_later hb a0; replace a1 := cell_later hb a1; replace a2 := cell_later hb a2; replace a3 := cell_later hb a3; replace a4 := cell_later hb a4; replace a5 := cell_later hb a5; replace a6 := cell_later hb a6; replace a7 := cell_later hb a7; replace a8 := cell_later hb a8
        clear hb
        go_wp2_with fail
        refine (less_any b a _).mono ?_
        rintro e w2 ⟨rfl, hb⟩
        rw [HY.out]
        replace HB := Lib.hid (below_then HB.out hb)
        replace a0 := cell_later hb a0; replace a1 := cell_later hb a1; replace a2 := cell_later hb a2; replace a3 := cell_later hb a3; replace a4 := cell_later hb a4; replace a5 := cell_later hb a5; replace a6 := cell_later hb a6; replace a7 := cell_later hb a7; replace a8 := cell_later hb a8
        clear hb
        go_wp2_with fail
        refine (less_any b c _).mono ?_
        rintro e w2 ⟨rfl, hb⟩
        rw [HZ.out]
        replace HB := Lib.hid (below_then HB.out hb)
        replace a0 := cell_later hb a0; replace a1 := cell_later hb a1; replace a2 := cell_later hb a2; replace a3 := cell_later hb a3; replace a4 := cell_later hb a4; replace a5 := cell_later hb a5; replace a6 := cell_later hb a6; replace a7 := cell_later hb a7; replace a8 := cell_later hb a8
        clear hb
        go_wp2_with fail
        refine (less_any a a _).mono ?_
        rintro e w2 ⟨rfl, hb⟩
        rw [swoS.irrefl a]
        replace HB := Lib.hid (below_then HB.out hb)
        replace a0 := cell_later hb a0; replace a1 := cell_later hb a1; replace a2 := cell_later hb a2; replace a3 := cell_later hb a3; replace a4 := cell_later hb a4; replace a5 := cell_later hb a5; replace a6 := cell_later hb a6; replace a7 := cell_later hb a7; replace a8 := cell_later hb a8
        clear hb
        go_wp2_with fail
        go_ret
        exact ⟨rfl, HB.out⟩
      · have HZ := Lib.hid hz
        have HT := Lib.hid (swoS.trans _ _ _ HX.out hz)
        clear hz
        go_enter Try.func5, Try.ntmps5
        go_wp2_with fail
        refine (awake_any _).mono ?_
        rintro e w1 ⟨rfl, hb⟩
        obtain ⟨A, B, C⟩ := HAB.out
        replace A := A.later hb
        replace B := B.later hb
        replace C := C.later hb
        replace HB := Lib.hid (below_then HB.out hb)
        have a0 := A.c0; have a1 := A.c1; have a2 := A.c2; have a3 := B.c0; have a4 := B.c1; have a5 := B.c2; have a6 := C.c0; have a7 := C.c1; have a8 := C.c2
        clear hb HAB A B C
        go_wp2_with fail
        refine (less_any a b _).mono ?_
        rintro e w2 ⟨rfl, hb⟩
        rw [HX.out]
        replace HB := Lib.hid (below_then HB.out hb)
        replace a0 := cell_later hb a0; replace a1 := cell_later hb a1; replace a2 := cell_later hb a2; replace a3 := cell_later hb a3; replace a4 := cell_later hb a4; replace a5 := cell_later hb a5; replace a6 := cell_later hb a6; replace a7 := cell_later hb a7; replace a8 := cell_later hb a8
        clear hb
        go_wp2_with fail
        refine (less_any b a _).mono ?_
        rintro e w2 ⟨rfl, hb⟩
        rw [HY.out]
        replace HB := Lib.hid (below_then HB.out hb)
        replace a0 := cell_later hb a0; replace a1 := cell_later hb a1; replace a2 := cell_later hb a2; replace a3 := cell_later hb a3; replace a4 := cell_later hb a4; replace a5 := cell_later hb a5; replace a6 := cell_later hb a6; replace a7 := cell_later hb a7; replace a8 := cell_later hb a8
        clear hb
        go_wp2_with fail
        refine (less_any b c _).mono ?_
        rintro e w2 ⟨rfl, hb⟩
        rw [HZ.out]
        replace HB := Lib.hid (below_then HB.out hb)
        replace a0 := cell_later hb a0; replace a1 := cell_later hb a1; replace a2 := cell_later hb a2; replace a3 := cell_later hb a3; replace a4 := cell_later hb a4; replace a5 := cell_later hb a5; replace a6 := cell_later hb a6; replace a7 := cell_later hb a7; replace a8 := cell_later hb a8
        clear hb
        go_wp2_with fail
        refine (less_any a c _).mono ?_
        rintro e w2 ⟨rfl, hb⟩
        rw [HT.out]
        replace HB := Lib.hid (below_then HB.out hb)
        replace a0 := cell_later hb a0; replace a1 := cell_later hb a1; replace a2 := cell_later hb a2; replace a3 := cell_later hb a3; replace a4 := cell_later hb a4; replace a5 := cell_later hb a5; replace a6 := cell_later hb a6; replace a7 := cell_later hb a7; replace a8 := cell_later hb a8
        clear hb
        go_wp2_with fail
        refine (less_any a a _).mono ?_
        rintro e w2 ⟨rfl, hb⟩
        rw [swoS.irrefl a]
        replace HB := Lib.hid (below_then HB.out hb)
        replace a0 := cell_later hb a0; replace a1 := cell_later hb a1; replace a2 := cell_later hb a2; replace a3 := cell_later hb a3; replace a4 := cell_later hb a4; replace a5 := cell_later hb a5; replace a6 := cell_later hb a6; replace a7 := cell_later hb a7; replace a8 := cell_later hb a8
        clear hb
        go_wp2_with fail
        go_ret
        exact ⟨rfl, HB.out⟩
    · rcases Int.lt_trichotomy a.s b.s with h'' | h'' | h''
      · have h1 : (a.t == b.t) = true := by simp [h]
        have h2 : (a.d == b.d) = true := by simp [h']
        have he : (a.s == b.s) = false := by simp; omega
        have hx : lessS a b = true := (lessS_iff a b).2 (by omega)
        have hy : lessS b a = false := (lessS_false b a).2 (by omega)
        have HX := Lib.hid hx
        have HY := Lib.hid hy
        clear hx hy
        clear h h' h''
        cases hz : lessS b c
        · have HZ := Lib.hid hz
          clear hz
          go_enter Try.func5, Try.ntmps5
          go_wp2_with fail
          refine (awake_any _).mono ?_
          rintro e w1 ⟨rfl, hb⟩
          obtain ⟨A, B, C⟩ := HAB.out
          replace A := A.later hb
          replace B := B.later hb
          replace C := C.later hb
          replace HB := Lib.hid (below_then HB.out hb)
          have a0 := A.c0; have a1 := A.c1; have a2 := A.c2; have a3 := B.c0; have a4 := B.c1; have a5 := B.c2; have a6 := C.c0; have a7 := C.c1; have a8 := C.c2
          clear hb HAB A B C
          go_wp2_with fail
          refine (less_any a b _).mono ?_
          rintro e w2 ⟨rfl, hb⟩
          rw [HX.out]
          replace HB := Lib.hid (below_then HB.out hb)
          replace a0 := cell_later hb a0; replace a1 := cell_later hb a1; replace a2 := cell_later hb a2; replace a3 := cell_later hb a3; replace a4 := cell_later hb a4; replace a5 := cell_later hb a5; replace a6 := cell_later hb a6; replace a7 := cell_later hb a7; replace a8 := cell_later hb a8
          clear hb
          go_wp2_with fail
          refine (less_any b a _).mono ?_
          rintro e w2 ⟨rfl, hb⟩
          rw [HY.out]
          replace HB := Lib.hid (below_then HB.out hb)
          replace a0 := cell_later hb a0; replace a1 := cell_later hb a1; replace a2 := cell_later hb a2; replace a3 := cell_later hb a3; replace a4 := cell_later hb a4; replace a5 := cell_later hb a5; replace a6 := cell_later hb a6; replace a7 := cell_later hb a7; replace a8 := cell_later hb a8
          clear hb
          go_wp2_with fail
          refine (less_any b c _).mono ?_
          rintro e w2 ⟨rfl, hb⟩
          rw [HZ.out]
          replace HB := Lib.hid (below_then HB.out hb)
          replace a0 := cell_later hb a0; replace a1 := cell_later hb a1; replace a2 := cell_later hb a2; replace a3 := cell_later hb a3; replace a4 := cell_later hb a4; replace a5 := cell_later hb a5; replace a6 := cell_later hb a6; replace a7 := cell_later hb a7; replace a8 := cell_later hb a8
          clear hb
          go_wp2_with fail
          refine (less_any a a _).mono ?_
          rintro e w2 ⟨rfl, hb⟩
          rw [swoS.irrefl a]
          replace HB := Lib.hid (below_then HB.out hb)
          replace a0 := cell_later hb a0; replace a1 := cell_later hb a1; replace a2 := cell_later hb a2; replace a3 := cell_later hb a3; replace a4 := cell_later hb a4; replace a5 := cell_later hb a5; replace a6 := cell_later hb a6; replace a7 := cell_later hb a7; replace a8 := cell_later hb a8
          clear hb
          go_wp2_with fail
          go_ret
          exact ⟨rfl, HB.out⟩
        · have HZ := Lib.hid hz
          have HT := Lib.hid (swoS.trans _ _ _ HX.out hz)
          clear hz
          go_enter Try.func5, Try.ntmps5
          go_wp2_with fail
          refine (awake_any _).mono ?_
          rintro e w1 ⟨rfl, hb⟩
          obtain ⟨A, B, C⟩ := HAB.out
          replace A := A.later hb
          replace B := B.later hb
          replace C := C.later hb
          replace HB := Lib.hid (below_then HB.out hb)
          have a0 := A.c0; have a1 := A.c1; have a2 := A.c2; have a3 := B.c0; have a4 := B.c1; have a5 := B.c2; have a6 := C.c0; have a7 := C.c1; have a8 := C.c2
          clear hb HAB A B C
          go_wp2_with fail
          refine (less_any a b _).mono ?_
          rintro e w2 ⟨rfl, hb⟩
          rw [HX.out]
          replace HB := Lib.hid (below_then HB.out hb)
          replace a0 := cell_later hb a0; replace a1 := cell_later hb a1; replace a2 := cell_later hb a2; replace a3 := cell_later hb a3; replace a4 := cell_later hb a4; replace a5 := cell_later hb a5; replace a6 := cell_later hb a6; replace a7 := cell_later hb a7; replace a8 := cell_later hb a8
          clear hb
          go_wp2_with fail
          refine (less_any b a _).mono ?_
          rintro e w2 ⟨rfl, hb⟩
          rw [HY.out]
          replace HB := Lib.hid (below_then HB.out hb)
          replace a0 := cell_later hb a0; replace a1 := cell_later hb a1; replace a2 := cell_later hb a2; replace a3 := cell_later hb a3; replace a4 := cell_later hb a4; replace a5 := cell_later hb a5; replace a6 := cell_later hb a6; replace a7 := cell_later hb a7; replace a8 := cell_later hb a8
          clear hb
          go_wp2_with fail
          refine (less_any b c _).mono ?_
          rintro e w2 ⟨rfl, hb⟩
          rw [HZ.out]
          replace HB := Lib.hid (below_then HB.out hb)
          replace a0 := cell_later hb a0; replace a1 := cell_later hb a1; replace a2 := cell_later hb a2; replace a3 := cell_later hb a3; replace a4 := cell_later hb a4; replace a5 := cell_later hb a5; replace a6 := cell_later hb a6; replace a7 := cell_later hb a7; replace a8 := cell_later hb a8
          clear hb
          go_wp2_with fail
          refine (less_any a c _).mono ?_
          rintro e w2 ⟨rfl, hb⟩
          rw [HT.out]
          replace HB := Lib.hid (below_then HB.out hb)
          replace a0 := cell_later hb a0; replace a1 := cell_later hb a1; replace a2 := cell_later hb a2; replace a3 := cell_later hb a3; replace a4 := cell_later hb a4; replace a5 := cell_later hb a5; replace a6 := cell_later hb a6; replace a7 := cell_later hb a7; replace a8 := cell_later hb a8
          clear hb
          go_wp2_with fail
          refine (less_any a a _).mono ?_
          rintro e w2 ⟨rfl, hb⟩
          rw [swoS.irrefl a]
          replace HB := Lib.hid (below_then HB.out hb)
          replace a0 := cell_later hb a0; replace a1 := cell_later hb a1; replace a2 := cell_later hb a2; replace a3 := cell_later hb a3; replace a4 := cell_later hb a4; replace a5 := cell_later hb a5; replace a6 := cell_later hb a6; replace a7 := cell_later hb a7; replace a8 := cell_later hb a8
          clear hb
          go_wp2_with fail
          go_ret
          exact ⟨rfl, HB.out⟩
      · have h1 : (a.t == b.t) = true := by simp [h]
        have h2 : (a.d == b.d) = true := by simp [h']
        have h3 : (a.s == b.s) = true := by simp [h'']
        have HX := Lib.hid ((lessS_false a b).2 (by omega))
        have HY := Lib.hid ((lessS_false b a).2 (by omega))
        clear h h' h''
        cases hz : lessS b c
        · have HZ := Lib.hid hz
          clear hz
          go_enter Try.func5, Try.ntmps5
          go_wp2_with fail
          refine (awake_any _).mono ?_
          rintro e w1 ⟨rfl, hb⟩
          obtain ⟨A, B, C⟩ := HAB.out
          replace A := A.later hb
          replace B := B.later hb
          replace C := C.later hb
          replace HB := Lib.hid (below_then HB.out hb)
          have a0 := A.c0; have a1 := A.c1; have a2 := A.c2; have a3 := B.c0; have a4 := B.c1; have a5 := B.c2; have a6 := C.c0; have a7 := C.c1; have a8 := C.c2
          clear hb HAB A B C
          go_wp2_with fail
          refine (less_any a b _).mono ?_
          rintro e w2 ⟨rfl, hb⟩
          rw [HX.out]
          replace HB := Lib.hid (below_then HB.out hb)
          replace a0 := cell_later hb a0; replace a1 := cell_later hb a1; replace a2 := cell_later hb a2; replace a3 := cell_later hb a3; replace a4 := cell_later hb a4; replace a5 := cell_later hb a5; replace a6 := cell_later hb a6; replace a7 := cell_later hb a7; replace a8 := cell_later hb a8
          clear hb
          go_wp2_with fail
          refine (less_any b a _).mono ?_
          rintro e w2 ⟨rfl, hb⟩
          rw [HY.out]
          replace HB := Lib.hid (below_then HB.out hb)
          replace a0 := cell_later hb a0; replace a1 := cell_later hb a1; replace a2 := cell_later hb a2; replace a3 := cell_later hb a3; replace a4 := cell_later hb a4; replace a5 := cell_later hb a5; replace a6 := cell_later hb a6; replace a7 := cell_later hb a7; replace a8 := cell_later hb a8
          clear hb
          go_wp2_with fail
          refine (less_any b c _).mono ?_
          rintro e w2 ⟨rfl, hb⟩
          rw [HZ.out]
          replace HB := Lib.hid (below_then HB.out hb)
          replace a0 := cell_later hb a0; replace a1 := cell_later hb a1; replace a2 := cell_later hb a2; replace a3 := cell_later hb a3; replace a4 := cell_later hb a4; replace a5 := cell_later hb a5; replace a6 := cell_later hb a6; replace a7 := cell_later hb a7; replace a8 := cell_later hb a8
          clear hb
          go_wp2_with fail
          refine (less_any a a _).mono ?_
          rintro e w2 ⟨rfl, hb⟩
          rw [swoS.irrefl a]
          replace HB := Lib.hid (below_then HB.out hb)
          replace a0 := cell_later hb a0; replace a1 := cell_later hb a1; replace a2 := cell_later hb a2; replace a3 := cell_later hb a3; replace a4 := cell_later hb a4; replace a5 := cell_later hb a5; replace a6 := cell_later hb a6; replace a7 := cell_later hb a7; replace a8 := cell_later hb a8
          clear hb
          go_wp2_with fail
          go_ret
          exact ⟨rfl, HB.out⟩
        · have HZ := Lib.hid hz
          clear hz
          go_enter Try.func5, Try.ntmps5
          go_wp2_with fail
          refine (awake_any _).mono ?_
          rintro e w1 ⟨rfl, hb⟩
          obtain ⟨A, B, C⟩ := HAB.out
          replace A := A.later hb
          replace B := B.later hb
          replace C := C.later hb
          replace HB := Lib.hid (below_then HB.out hb)
          have a0 := A.c0; have a1 := A.c1; have a2 := A.c2; have a3 := B.c0; have a4 := B.c1; have a5 := B.c2; have a6 := C.c0; have a7 := C.c1; have a8 := C.c2
          clear hb HAB A B C
          go_wp2_with fail
          refine (less_any a b _).mono ?_
          rintro e w2 ⟨rfl, hb⟩
          rw [HX.out]
          replace HB := Lib.hid (below_then HB.out hb)
          replace a0 := cell_later hb a0; replace a1 := cell_later hb a1; replace a2 := cell_later hb a2; replace a3 := cell_later hb a3; replace a4 := cell_later hb a4; replace a5 := cell_later hb a5; replace a6 := cell_later hb a6; replace a7 := cell_later hb a7; replace a8 := cell_later hb a8
          clear hb
          go_wp2_with fail
          refine (less_any b a _).mono ?_
          rintro e w2 ⟨rfl, hb⟩
          rw [HY.out]
          replace HB := Lib.hid (below_then HB.out hb)
          replace a0 := cell_later hb a0; replace a1 := cell_later hb a1; replace a2 := cell_later hb a2; replace a3 := cell_later hb a3; replace a4 := cell_later hb a4; replace a5 := cell_later hb a5; replace a6 := cell_later hb a6; replace a7 := cell_later hb a7; replace a8 := cell_later hb a8
          clear hb
          go_wp2_with fail
          refine (less_any b c _).mono ?_
          rintro e w2 ⟨rfl, hb⟩
          rw [HZ.out]
          replace HB := Lib.hid (below_then HB.out hb)
          replace a0 := cell_later hb a0; replace a1 := cell_later hb a1; replace a2 := cell_later hb a2; replace a3 := cell_later hb a3; replace a4 := cell_later hb a4; replace a5 := cell_later hb a5; replace a6 := cell_later hb a6; replace a7 := cell_later hb a7; replace a8 := cell_later hb a8
          clear hb
          go_wp2_with fail
          refine (less_any a a _).mono ?_
          rintro e w2 ⟨rfl, hb⟩
          rw [swoS.irrefl a]
          replace HB := Lib.hid (below_then HB.out hb)
          replace a0 := cell_later hb a0; replace a1 := cell_later hb a1; replace a2 := cell_later hb a2; replace a3 := cell_later hb a3; replace a4 := cell_later hb a4; replace a5 := cell_later hb a5; replace a6 := cell_later hb a6; replace a7 := cell_later hb a7; replace a8 := cell_later hb a8
          clear hb
          go_wp2_with fail
          go_ret
          exact ⟨rfl, HB.out⟩
      · have h1 : (a.t == b.t) = true := by simp [h]
        have h2 : (a.d == b.d) = true := by simp [h']
        have he : (a.s == b.s) = false := by simp; omega
        have hx : lessS a b = false := (lessS_false a b).2 (by omega)
        have hy : lessS b a = true := (lessS_iff b a).2 (by omega)
        have HX := Lib.hid hx
        have HY := Lib.hid hy
        clear hx hy
        clear h h' h''
        cases hz : lessS b c
        · have HZ := Lib.hid hz
          clear hz
          go_enter Try.func5, Try.ntmps5
          go_wp2_with fail
          refine (awake_any _).mono ?_
          rintro e w1 ⟨rfl, hb⟩
          obtain ⟨A, B, C⟩ := HAB.out
          replace A := A.later hb
          replace B := B.later hb
          replace C := C.later hb
          replace HB := Lib.hid (below_then HB.out hb)
          have a0 := A.c0; have a1 := A.c1; have a2 := A.c2; have a3 := B.c0; have a4 := B.c1; have a5 := B.c2; have a6 := C.c0; have a7 := C.c1; have a8 := C.c2
          clear hb HAB A B C
          go_wp2_with fail
          refine (less_any a b _).mono ?_
          rintro e w2 ⟨rfl, hb⟩
          rw [HX.out]
          replace HB := Lib.hid (below_then HB.out hb)
          replace a0 := cell_later hb a0; replace a1 := cell_later hb a1; replace a2 := cell_later hb a2; replace a3 := cell_later hb a3; replace a4 := cell_later hb a4; replace a5 := cell_later hb a5; replace a6 := cell_later hb a6; replace a7 := cell_later hb a7; replace a8 := cell_later hb a8
          clear hb
          go_wp2_with fail
          refine (less_any b a _).mono ?_
          rintro e w2 ⟨rfl, hb⟩
          rw [HY.out]
          replace HB := Lib.hid (below_then HB.out hb)
          replace a0 := cell_later hb a0; replace a1 := cell_later hb a1; replace a2 := cell_later hb a2; replace a3 := cell_later hb a3; replace a4 := cell_later hb a4; replace a5 := cell_later hb a5; replace a6 := cell_later hb a6; replace a7 := cell_later hb a7; replace a8 := cell_later hb a8
          clear hb
          go_wp2_with fail
          refine (less_any b c _).mono ?_
          rintro e w2 ⟨rfl, hb⟩
          rw [HZ.out]
          replace HB := Lib.hid (below_then HB.out hb)
          replace a0 := cell_later hb a0; replace a1 := cell_later hb a1; replace a2 := cell_later hb a2; replace a3 := cell_later hb a3; replace a4 := cell_later hb a4; replace a5 := cell_later hb a5; replace a6 := cell_later hb a6; replace a7 := cell_later hb a7; replace a8 := cell_later hb a8
          clear hb
          go_wp2_with fail
          refine (less_any a a _).mono ?_
          rintro e w2 ⟨rfl, hb⟩
          rw [swoS.irrefl a]
          replace HB := Lib.hid (below_then HB.out hb)
          replace a0 := cell_later hb a0; replace a1 := cell_later hb a1; replace a2 := cell_later hb a2; replace a3 := cell_later hb a3; replace a4 := cell_later hb a4; replace a5 := cell_later hb a5; replace a6 := cell_later hb a6; replace a7 := cell_later hb a7; replace a8 := cell_later hb a8
          clear hb
          go_wp2_with fail
          go_ret
          exact ⟨rfl, HB.out⟩
        · have HZ := Lib.hid hz
          clear hz
          go_enter Try.func5, Try.ntmps5
          go_wp2_with fail
          refine (awake_any _).mono ?_
          rintro e w1 ⟨rfl, hb⟩
          obtain ⟨A, B, C⟩ := HAB.out
          replace A := A.later hb
          replace B := B.later hb
          replace C := C.later hb
          replace HB := Lib.hid (below_then HB.out hb)
          have a0 := A.c0; have a1 := A.c1; have a2 := A.c2; have a3 := B.c0; have a4 := B.c1; have a5 := B.c2; have a6 := C.c0; have a7 := C.c1; have a8 := C.c2
          clear hb HAB A B C
          go_wp2_with fail
          refine (less_any a b _).mono ?_
          rintro e w2 ⟨rfl, hb⟩
          rw [HX.out]
          replace HB := Lib.hid (below_then HB.out hb)
          replace a0 := cell_later hb a0; replace a1 := cell_later hb a1; replace a2 := cell_later hb a2; replace a3 := cell_later hb a3; replace a4 := cell_later hb a4; replace a5 := cell_later hb a5; replace a6 := cell_later hb a6; replace a7 := cell_later hb a7; replace a8 := cell_later hb a8
          clear hb
          go_wp2_with fail
          refine (less_any b a _).mono ?_
          rintro e w2 ⟨rfl, hb⟩
          rw [HY.out]
          replace HB := Lib.hid (below_then HB.out hb)
          replace a0 := cell_later hb a0; replace a1 := cell_later hb a1; replace a2 := cell_later hb a2; replace a3 := cell_later hb a3; replace a4 := cell_later hb a4; replace a5 := cell_later hb a5; replace a6 := cell_later hb a6; replace a7 := cell_later hb a7; replace a8 := cell_later hb a8
          clear hb
          go_wp2_with fail
          refine (less_any b c _).mono ?_
          rintro e w2 ⟨rfl, hb⟩
          rw [HZ.out]
          replace HB := Lib.hid (below_then HB.out hb)
          replace a0 := cell_later hb a0; replace a1 := cell_later hb a1; replace a2 := cell_later hb a2; replace a3 := cell_later hb a3; replace a4 := cell_later hb a4; replace a5 := cell_later hb a5; replace a6 := cell_later hb a6; replace a7 := cell_later hb a7; replace a8 := cell_later hb a8
          clear hb
          go_wp2_with fail
          refine (less_any a a _).mono ?_
          rintro e w2 ⟨rfl, hb⟩
          rw [swoS.irrefl a]
          replace HB := Lib.hid (below_then HB.out hb)
          replace a0 := cell_later hb a0; replace a1 := cell_later hb a1; replace a2 := cell_later hb a2; replace a3 := cell_later hb a3; replace a4 := cell_later hb a4; replace a5 := cell_later hb a5; replace a6 := cell_later hb a6; replace a7 := cell_later hb a7; replace a8 := cell_later hb a8
          clear hb
          go_wp2_with fail
          go_ret
          exact ⟨rfl, HB.out⟩
    · have h1 : (a.t == b.t) = true := by simp [h]
      have he : (a.d == b.d) = false := by simp; omega
      have hx : lessS a b = false := (lessS_false a b).2 (by omega)
      have hy : lessS b a = true := (lessS_iff b a).2 (by omega)
      have HX := Lib.hid hx
      have HY := Lib.hid hy
      clear hx hy
      clear h h'
      cases hz : lessS b c
      · have HZ := Lib.hid hz
        clear hz
        go_enter Try.func5, Try.ntmps5
        go_wp2_with fail
        refine (awake_any _).mono ?_
        rintro e w1 ⟨rfl, hb⟩
        obtain ⟨A, B, C⟩ := HAB.out
        replace A := A.later hb
        replace B := B.later hb
        replace C := C.later hb
        replace HB := Lib.hid (below_then HB.out hb)
        have a0 := A.c0; have a1 := A.c1; have a2 := A.c2; have a3 := B.c0; have a4 := B.c1; have a5 := B.c2; have a6 := C.c0; have a7 := C.c1; have a8 := C.c2
        clear hb HAB A B C
        go_wp2_with fail
        refine (less_any a b _).mono ?_
        rintro e w2 ⟨rfl, hb⟩
        rw [HX.out]
        replace HB := Lib.hid (below_then HB.out hb)
        replace a0 := cell_later hb a0; replace a1 := cell_later hb a1; replace a2 := cell_later hb a2; replace a3 := cell_later hb a3; replace a4 := cell_later hb a4; replace a5 := cell_later hb a5; replace a6 := cell_later hb a6; replace a7 := cell_later hb a7; replace a8 := cell_later hb a8
        clear hb
        go_wp2_with fail
        refine (less_any b a _).mono ?_
        rintro e w2 ⟨rfl, hb⟩
        rw [HY.out]
        replace HB := Lib.hid (below_then HB.out hb)
        replace a0 := cell_later hb a0; replace a1 := cell_later hb a1; replace a2 := cell_later hb a2; replace a3 := cell_later hb a3; replace a4 := cell_later hb a4; replace a5 := cell_later hb a5; replace a6 := cell_later hb a6; replace a7 := cell_later hb a7; replace a8 := cell_later hb a8
        clear hb
        go_wp2_with fail
        refine (less_any b c _).mono ?_
        rintro e w2 ⟨rfl, hb⟩
        rw [HZ.out]
        replace HB := Lib.hid (below_then HB.out hb)
        replace a0 := cell_later hb a0; replace a1 := cell_later hb a1; replace a2 := cell_later hb a2; replace a3 := cell_later hb a3; replace a4 := cell_later hb a4; replace a5 := cell_later hb a5; replace a6 := cell_later hb a6; replace a7 := cell_later hb a7; replace a8 := cell_later hb a8
        clear hb
        go_wp2_with fail
        refine (less_any a a _).mono ?_
        rintro e w2 ⟨rfl, hb⟩
        rw [swoS.irrefl a]
        replace HB := Lib.hid (below_then HB.out hb)
        replace a0 := cell_later hb a0; replace a1 := cell_later hb a1; replace a2 := cell_later hb a2; replace a3 := cell_later hb a3; replace a4 := cell_later hb a4; replace a5 := cell_later hb a5; replace a6 := cell_later hb a6; replace a7 := cell_later hb a7; replace a8 := cell_later hb a8
        clear hb
        go_wp2_with fail
        go_ret
        exact ⟨rfl, HB.out⟩
      · have HZ := Lib.hid hz
        clear hz
        go_enter Try.func5, Try.ntmps5
        go_wp2_with fail
        refine (awake_any _).mono ?_
        rintro e w1 ⟨rfl, hb⟩
        obtain ⟨A, B, C⟩ := HAB.out
        replace A := A.later hb
        replace B := B.later hb
        replace C := C.later hb
        replace HB := Lib.hid (below_then HB.out hb)
        have a0 := A.c0; have a1 := A.c1; have a2 := A.c2; have a3 := B.c0; have a4 := B.c1; have a5 := B.c2; have a6 := C.c0; have a7 := C.c1; have a8 := C.c2
        clear hb HAB A B C
        go_wp2_with fail
        refine (less_any a b _).mono ?_
        rintro e w2 ⟨rfl, hb⟩
        rw [HX.out]
        replace HB := Lib.hid (below_then HB.out hb)
        replace a0 := cell_later hb a0; replace a1 := cell_later hb a1; replace a2 := cell_later hb a2; replace a3 := cell_later hb a3; replace a4 := cell_later hb a4; replace a5 := cell_later hb a5; replace a6 := cell_later hb a6; replace a7 := cell_later hb a7; replace a8 := cell_later hb a8
        clear hb
        go_wp2_with fail
        refine (less_any b a _).mono ?_
        rintro e w2 ⟨rfl, hb⟩
        rw [HY.out]
        replace HB := Lib.hid (below_then HB.out hb)
        replace a0 := cell_later hb a0; replace a1 := cell_later hb a1; replace a2 := cell_later hb a2; replace a3 := cell_later hb a3; replace a4 := cell_later hb a4; replace a5 := cell_later hb a5; replace a6 := cell_later hb a6; replace a7 := cell_later hb a7; replace a8 := cell_later hb a8
        clear hb
        go_wp2_with fail
        refine (less_any b c _).mono ?_
        rintro e w2 ⟨rfl, hb⟩
        rw [HZ.out]
        replace HB := Lib.hid (below_then HB.out hb)
        replace a0 := cell_later hb a0; replace a1 := cell_later hb a1; replace a2 := cell_later hb a2; replace a3 := cell_later hb a3; replace a4 := cell_later hb a4; replace a5 := cell_later hb a5; replace a6 := cell_later hb a6; replace a7 := cell_later hb a7; replace a8 := cell_later hb a8
        clear hb
        go_wp2_with fail
        refine (less_any a a _).mono ?_
        rintro e w2 ⟨rfl, hb⟩
        rw [swoS.irrefl a]
        replace HB := Lib.hid (below_then HB.out hb)
        replace a0 := cell_later hb a0; replace a1 := cell_later hb a1; replace a2 := cell_later hb a2; replace a3 := cell_later hb a3; replace a4 := cell_later hb a4; replace a5 := cell_later hb a5; replace a6 := cell_later hb a6; replace a7 := cell_later hb a7; replace a8 := cell_later hb a8
        clear hb
        go_wp2_with fail
        go_ret
        exact ⟨rfl, HB.out⟩
  · skip
    have he : (a.t == b.t) = false := by simp; omega
    have hx : lessS a b = false := (lessS_false a b).2 (by omega)
    have hy : lessS b a = true := (lessS_iff b a).2 (by omega)
    have HX := Lib.hid hx
    have HY := Lib.hid hy
    clear hx hy
    clear h
    cases hz : lessS b c
    · have HZ := Lib.hid hz
      clear hz
      go_enter Try.func5, Try.ntmps5
      go_wp2_with fail
      refine (awake_any _).mono ?_
      rintro e w1 ⟨rfl, hb⟩
      obtain ⟨A, B, C⟩ := HAB.out
      replace A := A.later hb
      replace B := B.later hb
      replace C := C.later hb
      replace HB := Lib.hid (below_then HB.out hb)
      have a0 := A.c0; have a1 := A.c1; have a2 := A.c2; have a3 := B.c0; have a4 := B.c1; have a5 := B.c2; have a6 := C.c0; have a7 := C.c1; have a8 := C.c2
      clear hb HAB A B C
      go_wp2_with fail
      refine (less_any a b _).mono ?_
      rintro e w2 ⟨rfl, hb⟩
      rw [HX.out]
      replace HB := Lib.hid (below_then HB.out hb)
      replace a0 := cell_later hb a0; replace a1 := cell_later hb a1; replace a2 := cell_later hb a2; replace a3 := cell_later hb a3; replace a4 := cell_later hb a4; replace a5 := cell_later hb a5; replace a6 := cell_later hb a6; replace a7 := cell_later hb a7; replace a8 := cell_later hb a8
      clear hb
      go_wp2_with fail
      refine (less_any b a _).mono ?_
      rintro e w2 ⟨rfl, hb⟩
      rw [HY.out]
      replace HB := Lib.hid (below_then HB.out hb)
      replace a0 := cell_later hb a0; replace a1 := cell_later hb a1; replace a2 := cell_later hb a2; replace a3 := cell_later hb a3; replace a4 := cell_later hb a4; replace a5 := cell_later hb a5; replace a6 := cell_later hb a6; replace a7 := cell_later hb a7; replace a8 := cell_later hb a8
      clear hb
      go_wp2_with fail
      refine (less_any b c _).mono ?_
      rintro e w2 ⟨rfl, hb⟩
      rw [HZ.out]
      replace HB := Lib.hid (below_then HB.out hb)
      replace a0 := cell_later hb a0; replace a1 := cell_later hb a1; replace a2 := cell_later hb a2; replace a3 := cell_later hb a3; replace a4 := cell_later hb a4; replace a5 := cell_later hb a5; replace a6 := cell_later hb a6; replace a7 := cell_later hb a7; replace a8 := cell_later hb a8
      clear hb
      go_wp2_with fail
      refine (less_any a a _).mono ?_
      rintro e w2 ⟨rfl, hb⟩
      rw [swoS.irrefl a]
      replace HB := Lib.hid (below_then HB.out hb)
      replace a0 := cell_later hb a0; replace a1 := cell_later hb a1; replace a2 := cell_later hb a2; replace a3 := cell_later hb a3; replace a4 := cell_later hb a4; replace a5 := cell_later hb a5; replace a6 := cell_later hb a6; replace a7 := cell_later hb a7; replace a8 := cell_later hb a8
      clear hb
      go_wp2_with fail
      go_ret
      exact ⟨rfl, HB.out⟩
    · have HZ := Lib.hid hz
      clear hz
      go_enter Try.func5, Try.ntmps5
      go_wp2_with fail
      refine (awake_any _).mono ?_
      rintro e w1 ⟨rfl, hb⟩
      obtain ⟨A, B, C⟩ := HAB.out
      replace A := A.later hb
      replace B := B.later hb
      replace C := C.later hb
      replace HB := Lib.hid (below_then HB.out hb)
      have a0 := A.c0; have a1 := A.c1; have a2 := A.c2; have a3 := B.c0; have a4 := B.c1; have a5 := B.c2; have a6 := C.c0; have a7 := C.c1; have a8 := C.c2
      clear hb HAB A B C
      go_wp2_with fail
      refine (less_any a b _).mono ?_
      rintro e w2 ⟨rfl, hb⟩
      rw [HX.out]
      replace HB := Lib.hid (below_then HB.out hb)
      replace a0 := cell_later hb a0; replace a1 := cell_later hb a1; replace a2 := cell_later hb a2; replace a3 := cell_later hb a3; replace a4 := cell_later hb a4; replace a5 := cell_later hb a5; replace a6 := cell_later hb a6; replace a7 := cell_later hb a7; replace a8 := cell_later hb a8
      clear hb
      go_wp2_with fail
      refine (less_any b a _).mono ?_
      rintro e w2 ⟨rfl, hb⟩
      rw [HY.out]
      replace HB := Lib.hid (below_then HB.out hb)
      replace a0 := cell_later hb a0; replace a1 := cell_later hb a1; replace a2 := cell_later hb a2; replace a3 := cell_later hb a3; replace a4 := cell_later hb a4; replace a5 := cell_later hb a5; replace a6 := cell_later hb a6; replace a7 := cell_later hb a7; replace a8 := cell_later hb a8
      clear hb
      go_wp2_with fail
      refine (less_any b c _).mono ?_
      rintro e w2 ⟨rfl, hb⟩
      rw [HZ.out]
      replace HB := Lib.hid (below_then HB.out hb)
      replace a0 := cell_later hb a0; replace a1 := cell_later hb a1; replace a2 := cell_later hb a2; replace a3 := cell_later hb a3; replace a4 := cell_later hb a4; replace a5 := cell_later hb a5; replace a6 := cell_later hb a6; replace a7 := cell_later hb a7; replace a8 := cell_later hb a8
      clear hb
      go_wp2_with fail
      refine (less_any a a _).mono ?_
      rintro e w2 ⟨rfl, hb⟩
      rw [swoS.irrefl a]
      replace HB := Lib.hid (below_then HB.out hb)
      replace a0 := cell_later hb a0; replace a1 := cell_later hb a1; replace a2 := cell_later hb a2; replace a3 := cell_later hb a3; replace a4 := cell_later hb a4; replace a5 := cell_later hb a5; replace a6 := cell_later hb a6; replace a7 := cell_later hb a7; replace a8 := cell_later hb a8
      clear hb
      go_wp2_with fail
      go_ret
      exact ⟨rfl, HB.out⟩

set_option maxRecDepth 100000 in
theorem lifted (os : Os) (started : os.Started) (H : Type) (enc : TypeId × Value → H) :
    ReturnsInHanded {} Try.checked os 5 .any (Rows.clockTotalSpec.pre6 enc Try.prog Try.f5 Rows.clockTotalRow.domain false) (Rows.clockTotalSpec.post enc Try.prog Try.f5 false true false false) := by
  refine returnsInHanded_of_change_sized (C := Try.checked) ownKnob_none started (by kernel_rfl) Try.func5
    (ChangeSpec.witness6 (enc := enc) (C := Try.checked) false ⟨#[], #[.agg #[.int .i64 0, .int .i64 0, .int .i64 0], .agg #[.int .i64 0, .int .i64 0, .int .i64 0], .agg #[.int .i64 0, .int .i64 0, .int .i64 0]], []⟩ 8 (by kernel_rfl) (by kernel_rfl) (by kernel_rfl) (by kernel_rfl)) ?_
  intro W base args ds gs before hval0 hW hcnd hsz0 _
  have hval : ∀ (j : Nat) t v, Try.f5.params[j]? = some t → args[j]? = some v → Value.okWide Try.prog W .any base t v := hval0
  have hW' := hW
  obtain ⟨p, q, hA0, hV, rfl, hfz, hnd⟩ := hW
  have hA : DataW.TrodAll enc Try.prog W 0 (fun _ => true) true Try.f5.params.toList args.toList ds p := hA0
  have hsz : (DataW.weightsEach Try.prog (Try.f5.params.toList ++ Rows.clockTotalSpec.plain.varTypes Try.prog) (ds ++ gs)).all (· ≤ reachBytes) = true := hsz0
  rw [Try.params5] at hA hval hsz
  obtain ⟨v0, vs0, d0, ds0, p0, q0, hargs, rfl, rfl, h0, r0r⟩ := trodAll_cons hA
  obtain ⟨v1, vs1, d1, ds1, p1, q1, rfl, rfl, rfl, h1, r1r⟩ := trodAll_cons r0r
  obtain ⟨v2, vs2, d2, ds2, p2, q2, rfl, rfl, rfl, h2, r2r⟩ := trodAll_cons r1r
  obtain ⟨rfl, rfl, rfl⟩ := trodAll_nil r2r
  obtain rfl : args = #[v0, v1, v2] := by cases args; simp_all
  obtain ⟨rfl, rfl⟩ := trodVars_none hV
  have g0 := sized_at hsz (j := 0) rfl rfl
  have g1 := sized_at hsz (j := 1) rfl rfl
  have g2 := sized_at hsz (j := 2) rfl rfl
  obtain ⟨y0_0, rfl⟩ := open_stp (hval 0 23 v0 rfl rfl) h0
  obtain ⟨y1_0, rfl⟩ := open_stp (hval 1 23 v1 rfl rfl) h1
  obtain ⟨y2_0, rfl⟩ := open_stp (hval 2 23 v2 rfl rfl) h2
  refine (walk y0_0 y1_0 y2_0 W ).mono fun e W' ⟨he, hg⟩ => ⟨_, he, law_post laidOut (by kernel_rfl) rfl Try.underlying4 rfl rfl hW' hg⟩

theorem over : Rows.clockTotalRow.holds Try.pinned (OpenSpec.ofChange Rows.clockTotalSpec) :=
  OpenClaim.holds_of_wide 5 Try.f5 rfl rfl rfl rfl rfl rfl rfl ⟨rfl, rfl, rfl, rfl, rfl⟩ rfl rfl rfl rfl rfl (by kernel_rfl) Try.func5 (by kernel_rfl)
    (of_decide_eq_true (by kernel_rfl)) (by unfold Func.isWrapper; first | (rw [if_pos (by decide +kernel)]; kernel_rfl) | (rw [if_neg (by decide +kernel)]; exact ⟨rfl, rfl⟩))
    (fun os started H enc _ => lifted os started H enc)

/-- THE STATEMENT. -/
theorem proved : Rows.ClockTotalSaid :=
  over
#print axioms proved
end Go.Proofs.Ytboblpmpklofgaa.clockTotal
