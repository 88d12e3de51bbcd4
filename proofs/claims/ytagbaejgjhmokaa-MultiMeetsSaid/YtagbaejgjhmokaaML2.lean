/-
  Layer 7 (multi): contracts as the laws use them.
-/
import Derived.Test.YtagbaejgjhmokaaML1
import Derived.Test.YtagbaejgjhmokaaMO
namespace Go.Proofs.Ytagbaejgjhmokaa
open Go.RowKit Go.Sort Go.BigFrame

/-- May a cell be? -/
def rcB (kd : Int) (cv : Val) (l : List Prt) : Bool := decide (kd = 1) && decide (cv = nilV) && l.all okP && decide (Rise l)
theorem rcB_iff {kd : Int} {cv : Val} {l : List Prt} : rcB kd cv l = true ↔ RightCell kd cv l := by
  unfold rcB
  simp only [Bool.and_eq_true, decide_eq_true_eq, List.all_eq_true]
  exact ⟨fun h => ⟨h.1.1.1, h.1.1.2, h.1.2, h.2⟩, fun h => ⟨⟨⟨h.kind, h.val⟩, h.parts.ok⟩, h.parts.rise⟩⟩
theorem right_p {kd k n : Int} {s : ByteArray} {va : Value} {l : List Prt} {w : World} (ha : PRd w va l) (hn : l.length ≤ 1000000) :
    Calls Try.prog 12 #[.agg #[.int .i64 kd, .int .i64 k, .int .i64 n, .string s, va]] w fun e w' => e = .returned (.bool (rcB kd ⟨k, n, s⟩ l)) ∧ Below w.heap.size w w' := by
  refine (right_any kd ⟨k, n, s⟩ va l w ha hn).mono ?_
  rintro e w' ⟨b, rfl, hb, h⟩
  exact ⟨ret_bool (Bool.eq_iff_iff.2 (hb.trans rcB_iff.symm)), h⟩
theorem refRight_p {kd k n : Int} {s : ByteArray} {va : Value} {l : List Prt} {w : World} (ha : PRd w va l) (hn : l.length ≤ 1000000) :
    Calls Try.prog 13 #[.agg #[.int .i64 kd, .int .i64 k, .int .i64 n, .string s, va]] w fun e w' => e = .returned (.bool (rcB kd ⟨k, n, s⟩ l)) ∧ Below w.heap.size w w' := by
  refine (refRight_any kd ⟨k, n, s⟩ va l w ha hn).mono ?_
  rintro e w' ⟨b, rfl, hb, h⟩
  exact ⟨ret_bool (Bool.eq_iff_iff.2 (hb.trans rcB_iff.symm)), h⟩
theorem few_p {kd k n : Int} {s : ByteArray} {va : Value} {l : List Prt} {w : World} (b : Bool) (hb : decide ((l.length : Int) ≤ 60) = b) (ha : PRd w va l) :
    Calls Try.prog 10 #[.agg #[.int .i64 kd, .int .i64 k, .int .i64 n, .string s, va]] w fun e w' => e = .returned (.bool b) ∧ Below w.heap.size w w' := by
  have := few_any kd ⟨k, n, s⟩ va l w ha
  rw [hb] at this
  exact this
theorem has_p {kd k n : Int} {s : ByteArray} {va : Value} {l : List Prt} {dev seq : Int} {w : World} (ha : PRd w va l) (hn : l.length ≤ 1000000) :
    Calls Try.prog 21 #[.agg #[.int .i64 kd, .int .i64 k, .int .i64 n, .string s, va], .agg #[.int .i64 dev, .int .i64 seq]] w fun e w' => e = .returned (.bool (hasP l ⟨dev, seq⟩)) ∧ Below w.heap.size w w' :=
  refHas_any kd ⟨k, n, s⟩ va l ⟨dev, seq⟩ w ha hn
theorem hasV_p {vv : Value} {l : List Int} {dev seq : Int} {w : World} (h : Rd w vv l.length (l.map ic)) :
    Calls Try.prog 20 #[vv, .agg #[.int .i64 dev, .int .i64 seq]] w fun e w' => e = .returned (.bool (hasV l ⟨dev, seq⟩)) ∧ Below w.heap.size w w' :=
  refHasV_any vv l ⟨dev, seq⟩ w h
theorem writeL_len (l : List Prt) (v : Val) (d : Dt) (k : List Int) : (writeL l v d k).length ≤ l.length + 1 := by
  unfold writeL
  rw [putD_length]
  have : (keptW l d k).length ≤ l.length := List.length_filter_le _ _
  omega
theorem joinL_len (a b : List Prt) (x y : List Int) : (joinL a b x y).length ≤ a.length + b.length := by
  unfold joinL
  rw [isortL_length, List.length_append]
  have h1 := List.length_filter_le (fun p : Prt => hasP b p.d || !hasV y p.d) a
  have h2 := List.length_filter_le (fun p : Prt => !hasP a p.d && !hasV x p.d) b
  omega
end Go.Proofs.Ytagbaejgjhmokaa
