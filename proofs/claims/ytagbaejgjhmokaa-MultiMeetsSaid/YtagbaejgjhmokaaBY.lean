/-
  Layer 7 (multi): more for the laws.
-/
import Derived.Test.YtagbaejgjhmokaaML2
import Derived.Test.YtagbaejgjhmokaaBX
import Derived.Deep.DeepCutAuto
namespace Go.Proofs.Ytagbaejgjhmokaa
open Go.RowKit Go.Sort Go.BigFrame
theorem right_b {kd k n : Int} {s : ByteArray} {va : Value} {l : List Prt} {w : World} (b : Bool) (hb : rcB kd ⟨k, n, s⟩ l = b) (ha : PRd w va l) (hn : l.length ≤ 1000000) :
    Calls Try.prog 12 #[.agg #[.int .i64 kd, .int .i64 k, .int .i64 n, .string s, va]] w fun e w' => e = .returned (.bool b) ∧ Below w.heap.size w w' := by
  have := right_p (kd := kd) (k := k) (n := n) (s := s) ha hn
  rw [hb] at this
  exact this
theorem hasV_b {vv : Value} {l : List Int} {dev seq : Int} {w : World} (b : Bool) (hb : hasV l ⟨dev, seq⟩ = b) (h : Rd w vv l.length (l.map ic)) :
    Calls Try.prog 20 #[vv, .agg #[.int .i64 dev, .int .i64 seq]] w fun e w' => e = .returned (.bool b) ∧ Below w.heap.size w w' := by
  have := hasV_p (dev := dev) (seq := seq) h
  rw [hb] at this
  exact this
theorem has_b {kd k n : Int} {s : ByteArray} {va : Value} {l : List Prt} {dev seq : Int} {w : World} (b : Bool) (hb : hasP l ⟨dev, seq⟩ = b) (ha : PRd w va l) (hn : l.length ≤ 1000000) :
    Calls Try.prog 21 #[.agg #[.int .i64 kd, .int .i64 k, .int .i64 n, .string s, va], .agg #[.int .i64 dev, .int .i64 seq]] w fun e w' => e = .returned (.bool b) ∧ Below w.heap.size w w' := by
  have := has_p (kd := kd) (k := k) (n := n) (s := s) (dev := dev) (seq := seq) ha hn
  rw [hb] at this
  exact this
/-- Two boxes made by one statement. -/
theorem two_new (w : World) (a b : Array Value) (T U : TypeId) : Hid (Bx ((w.alloc (.cells a T)).alloc (.cells b U)).drew w.heap.size a T) ∧ Hid (Bx ((w.alloc (.cells a T)).alloc (.cells b U)).drew (w.heap.size + 1) b U) ∧ Hid (Ext w ((w.alloc (.cells a T)).alloc (.cells b U)).drew) := by
  refine ⟨?_, ?_, ?_⟩
  · show Bx ((w.alloc (.cells a T)).alloc (.cells b U)) w.heap.size a T
    exact bx_later (below_alloc _ _) (bx_new rfl)
  · show Bx ((w.alloc (.cells a T)).alloc (.cells b U)) (w.heap.size + 1) b U
    exact bx_new (by simp)
  · exact (below_alloc_then (below_alloc _ _)).drew
theorem refRightV_b {k n : Int} {s : ByteArray} {w : World} (b : Bool) (hb : rightV ⟨k, n, s⟩ = b) :
    Calls Try.prog 19 #[.agg #[.int .i64 k, .int .i64 n, .string s]] w fun e w' => e = .returned (.bool b) ∧ Below w.heap.size w w' := by
  have := refRightV_any k n s w
  rw [hb] at this
  exact this
theorem refLessV_b {k n k' n' : Int} {s s' : ByteArray} {w : World} (b : Bool) (hb : lessV ⟨k, n, s⟩ ⟨k', n', s'⟩ = b) :
    Calls Try.prog 25 #[.agg #[.int .i64 k, .int .i64 n, .string s], .agg #[.int .i64 k', .int .i64 n', .string s']] w fun e w' => e = .returned (.bool b) ∧ Below w.heap.size w w' := by
  have := refLessV_any k n s k' n' s' w
  rw [hb] at this
  exact this
end Go.Proofs.Ytagbaejgjhmokaa
