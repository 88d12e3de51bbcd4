/-
  Layers 7 and 9: arguments opened.
-/
import Derived.Test.YtnpciogpegmejaaOG
import Derived.Test.YtnpciogpegmejaaMK
namespace Go.Proofs.Ytnpciogpegmejaa
open Go.ChangeShapes Go.WideShapes Go.RowKit

theorem cellsStr : Try.prog.cellsOf 9 = 1 := by kernel_rfl
theorem cellsBool : Try.prog.cellsOf 4 = 1 := by kernel_rfl
theorem cellsVal : Try.prog.cellsOf 23 = 3 := by kernel_rfl
theorem cellsDot : Try.prog.cellsOf 37 = 2 := by kernel_rfl
theorem cellsPart : Try.prog.cellsOf 43 = 11 := by kernel_rfl
theorem cellsCell : Try.prog.cellsOf 26 = 5 := by kernel_rfl
theorem cellsParts : Try.prog.cellsOf 24 = 1 := by kernel_rfl
theorem cellsVec : Try.prog.cellsOf 28 = 1 := by kernel_rfl

section
variable {H : Type} {enc : TypeId × Value → H} {W : World} {n : Nat} {cs : List Value} {x : DataW H × List MemPlace}

theorem opn_val (h : DataW.trod enc Try.prog W 0 (fun _ => true) true n 23 cs = some x) (hl : cs.length = 3) : ∃ a : Val, cs = a.cs := by
  match cs, hl with
  | [c0, c1, c2], _ =>
    obtain ⟨m, hf⟩ := opn_fields Try.underlying23 h
    obtain ⟨_, h0⟩ := hf 0 3 0 1 rfl cellsInt
    obtain ⟨_, h1⟩ := hf 1 3 1 1 rfl cellsInt
    obtain ⟨_, h2⟩ := hf 2 9 2 1 rfl cellsStr
    obtain ⟨k, e0, _⟩ := opn_int Try.underlying3 h0
    obtain ⟨j, e1, _⟩ := opn_int Try.underlying3 h1
    obtain ⟨s, e2, _⟩ := opn_string Try.underlying9 h2
    simp at e0 e1 e2
    exact ⟨⟨k, j, s⟩, by rw [e0, e1, e2]; rfl⟩

theorem opn_dot (h : DataW.trod enc Try.prog W 0 (fun _ => true) true n 37 cs = some x) (hl : cs.length = 2) : ∃ a : Dt, cs = [.int .i64 a.dev, .int .i64 a.seq] := by
  match cs, hl with
  | [c0, c1], _ =>
    obtain ⟨m, hf⟩ := opn_fields Try.underlying37 h
    obtain ⟨_, h0⟩ := hf 0 3 0 1 rfl cellsInt
    obtain ⟨_, h1⟩ := hf 1 3 1 1 rfl cellsInt
    obtain ⟨k, e0, _⟩ := opn_int Try.underlying3 h0
    obtain ⟨j, e1, _⟩ := opn_int Try.underlying3 h1
    simp at e0 e1
    exact ⟨⟨k, j⟩, by rw [e0, e1]⟩

theorem opn_part (h : DataW.trod enc Try.prog W 0 (fun _ => true) true n 43 cs = some x) (hl : cs.length = 11) : ∃ a : Prt, cs = enP a ∧ True := by
  match cs, hl with
  | [c0, c1, c2, c3, c4, c5, c6, c7, c8, c9, c10], _ =>
    obtain ⟨m, hf⟩ := opn_fields Try.underlying43 h
    obtain ⟨_, h0⟩ := hf 0 23 0 3 rfl cellsVal
    obtain ⟨_, h1⟩ := hf 1 37 3 2 rfl cellsDot
    obtain ⟨_, h2⟩ := hf 2 3 5 1 rfl cellsInt
    obtain ⟨_, h3⟩ := hf 3 3 6 1 rfl cellsInt
    obtain ⟨_, h4⟩ := hf 4 37 7 2 rfl cellsDot
    obtain ⟨_, h5⟩ := hf 5 3 9 1 rfl cellsInt
    obtain ⟨_, h6⟩ := hf 6 4 10 1 rfl cellsBool
    obtain ⟨v, e0⟩ := opn_val h0 rfl
    obtain ⟨d, e1⟩ := opn_dot h1 rfl
    obtain ⟨i2, e2, _⟩ := opn_int Try.underlying3 h2
    obtain ⟨i3, e3, _⟩ := opn_int Try.underlying3 h3
    obtain ⟨f, e4⟩ := opn_dot h4 rfl
    obtain ⟨i5, e5, _⟩ := opn_int Try.underlying3 h5
    obtain ⟨b, e6⟩ := opn_bool Try.underlying4 h6
    simp [Val.cs] at e0 e1 e2 e3 e4 e5 e6
    refine ⟨⟨v, d, i2, i3, f, i5, b⟩, ?_, trivial⟩
    simp [enP, e0, e1, e2, e3, e4, e5, e6]

theorem opn_vec (h : DataW.trod enc Try.prog W 0 (fun _ => true) true n 28 cs = some x) : ∃ (v : Value) (l : List Int), cs = [v] ∧ Rd W v l.length (l.map ic) ∧ ∀ y ∈ l, -9223372036854775808 ≤ y ∧ y ≤ 9223372036854775807 := by
  obtain ⟨v, l, h1, h2, h3⟩ := opn_list (α := Int) (fun y => [ic y]) (fun y => -9223372036854775808 ≤ y ∧ y ≤ 9223372036854775807) 1 (fun _ => rfl) (by decide) Try.underlying28 cellsInt (fun _ _ _ h _ => opn_int Try.underlying3 h) h
  refine ⟨v, l, h1, ?_, h3⟩
  have : ∀ m : List Int, m.flatMap (fun y => [ic y]) = m.map ic := fun m => by induction m with | nil => rfl | cons a m ih => simp [ih]
  rwa [this] at h2

theorem opn_parts (h : DataW.trod enc Try.prog W 0 (fun _ => true) true n 24 cs = some x) : ∃ (v : Value) (l : List Prt), cs = [v] ∧ PRd W v l := by
  obtain ⟨v, l, h1, h2, _⟩ := opn_list (α := Prt) enP (fun _ => True) 11 (fun _ => rfl) (by decide) Try.underlying24 cellsPart (fun _ _ _ h hl => opn_part h hl) h
  exact ⟨v, l, h1, h2⟩

variable {v : Value} {d : DataW H} {p : List MemPlace} {base : Nat}

set_option maxRecDepth 100000 in
/-- A cell that came in. -/
theorem open_cell (hok : Value.okWide Try.prog W .any base 26 v) (h : DataW.Trod enc Try.prog W 0 (fun _ => true) true 26 v d p) :
    ∃ (kd : Int) (cv : Val) (va : Value) (l : List Prt), v = .agg #[.int .i64 kd, .int .i64 cv.k, .int .i64 cv.n, .string cv.s, va] ∧ PRd W va l := by
  obtain ⟨cs, rfl, hl, hcs⟩ := opn_agg (.inl ⟨_, Try.underlying26⟩) hok
  obtain ⟨n, h⟩ := h
  rw [hcs] at h
  rw [cellsCell] at hl
  match cs, hl with
  | [c0, c1, c2, c3, c4], _ =>
    obtain ⟨m, hf⟩ := opn_fields Try.underlying26 h
    obtain ⟨_, h0⟩ := hf 0 3 0 1 rfl cellsInt
    obtain ⟨_, h1⟩ := hf 1 23 1 3 rfl cellsVal
    obtain ⟨_, h2⟩ := hf 2 24 4 1 rfl cellsParts
    obtain ⟨kd, e0, _⟩ := opn_int Try.underlying3 h0
    obtain ⟨cv, e1⟩ := opn_val h1 rfl
    obtain ⟨va, l, e2, hr⟩ := opn_parts h2
    simp [Val.cs] at e0 e1 e2
    exact ⟨kd, cv, va, l, by rw [e0, e1.1, e1.2.1, e1.2.2, e2], hr⟩

set_option maxRecDepth 100000 in
/-- A part that came in. -/
theorem open_part (hok : Value.okWide Try.prog W .any base 43 v) (h : DataW.Trod enc Try.prog W 0 (fun _ => true) true 43 v d p) : ∃ a : Prt, v = a.agg := by
  obtain ⟨cs, rfl, hl, hcs⟩ := opn_agg (.inl ⟨_, Try.underlying43⟩) hok
  obtain ⟨n, h⟩ := h
  rw [hcs] at h
  rw [cellsPart] at hl
  obtain ⟨a, rfl, _⟩ := opn_part h hl
  exact ⟨a, rfl⟩

set_option maxRecDepth 100000 in
/-- A vector that came in. -/
theorem open_vec (hok : Value.okWide Try.prog W .any base 28 v) (h : DataW.Trod enc Try.prog W 0 (fun _ => true) true 28 v d p) : ∃ l : List Int, Rd W v l.length (l.map ic) := by
  obtain ⟨a0, len, cap, rfl⟩ := okWide_slice Try.underlying28 hok
  obtain ⟨n, h⟩ := h
  obtain ⟨v', l, e, hr, _⟩ := opn_vec h
  have : Value.slice a0 len cap = v' := by simpa [Value.cells] using e
  rw [this]
  exact ⟨l, hr⟩

set_option maxRecDepth 100000 in
theorem open_vec2 (hok : Value.okWide Try.prog W .any base 29 v) (h : DataW.Trod enc Try.prog W 0 (fun _ => true) true 29 v d p) : ∃ (va vb : Value) (a b : List Int), v = .agg #[va, vb] ∧ Rd W va a.length (a.map ic) ∧ Rd W vb b.length (b.map ic) := by
  obtain ⟨cs, rfl, hl, hcs⟩ := opn_agg (.inr ⟨_, _, Try.underlying29⟩) hok
  obtain ⟨n, h⟩ := h
  rw [hcs] at h
  rw [show Try.prog.cellsOf 29 = 2 by kernel_rfl] at hl
  match cs, hl with
  | [c0, c1], _ =>
    obtain ⟨m, hf⟩ := opn_elems Try.underlying29 h
    rw [show Try.prog.cellsOf _ = 1 from cellsVec] at hf
    obtain ⟨_, h0⟩ := hf 0 (by decide)
    obtain ⟨_, h1⟩ := hf 1 (by decide)
    obtain ⟨va, a, e0, r0, _⟩ := opn_vec h0
    obtain ⟨vb, b, e1, r1, _⟩ := opn_vec h1
    simp at e0 e1
    exact ⟨va, vb, a, b, by rw [e0, e1], r0, r1⟩



end
end Go.Proofs.Ytnpciogpegmejaa
