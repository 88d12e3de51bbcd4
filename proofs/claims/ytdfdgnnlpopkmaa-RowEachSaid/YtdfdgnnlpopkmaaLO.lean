/-
  Arguments opened as lists of structs.
-/
import Derived.Test.YtdfdgnnlpopkmaaLaw
import Derived.Test.YtdfdgnnlpopkmaaR
import Derived.Test.YtdfdgnnlpopkmaaKR
import Derived.Deep.Slices
import Derived.Deep.Strs
import Derived.Lib.SmallJoins
namespace Go.Proofs.Ytdfdgnnlpopkmaa
open Go.ChangeShapes Go.WideShapes Go.RowKit

theorem flat_at {α β : Type} (f : α → List β) (size : Nat) (hf : ∀ a, (f a).length = size) (hs : 0 < size) : ∀ (l : List α) (j : Nat) (u : β), (l.flatMap f)[j]? = some u → ∃ (i r : Nat) (hi : i < l.length), r < size ∧ j = i * size + r ∧ (f l[i])[r]? = some u := by
  intro l
  induction l with
  | nil => intro j u h; simp at h
  | cons a l ih =>
    intro j u h
    rw [List.flatMap_cons] at h
    by_cases hj : j < size
    · rw [List.getElem?_append_left (by rw [hf]; exact hj)] at h
      exact ⟨0, j, by simp, hj, by omega, h⟩
    · rw [List.getElem?_append_right (by rw [hf]; omega), hf] at h
      obtain ⟨i, r, hi, hr, he, hu⟩ := ih _ _ h
      exact ⟨i + 1, r, by simpa using hi, hr, by rw [Nat.succ_mul]; omega, hu⟩

/-- A slice of anything that came in. -/
theorem open_list {H : Type} {enc : TypeId × Value → H} {P : Program} {W : World} {t e : TypeId} {v : Value} {d : DataW H} {p : List MemPlace} {base : Nat} {α : Type} [Inhabited α] (f : α → List Value) (size : Nat) (hf : ∀ a, (f a).length = size) (hs : 0 < size)
    (ht : P.underlying t = some (.slice e)) (hc : P.cellsOf e = size) (hopen : ∀ n cs x, DataW.trod enc P W 0 (fun _ => true) true n e cs = some x → cs.length = size → ∃ a, cs = f a)
    (hok : Value.okWide P W .any base t v) (h : DataW.Trod enc P W 0 (fun _ => true) true t v d p) : ∃ l : List α, Rd W v l.length (l.flatMap f) := by
  obtain ⟨a0, len, cap, rfl⟩ := okWide_slice ht hok
  obtain ⟨fuel, hfu⟩ := h
  rcases Deep.open_slice ht hfu with ⟨hcs, _⟩ | ⟨a, len', cap', m, n, D, Pl, hcs, _, hl, hm, hmm, _, hx⟩
  · have hcs' : Value.slice a0 len cap = .slice none 0 0 := by simpa [Value.cells] using hcs
    cases hcs'
    exact ⟨[], none, 0, rfl, Nat.le_refl _, Nat.zero_le _, fun _ => rfl, fun a ha => nomatch ha⟩
  · have hcs' : Value.slice a0 len cap = .slice (some a) len' cap' := by simpa [Value.cells] using hcs
    cases hcs'
    have hmc : m = cap := by simpa using hmm
    subst hmc
    obtain ⟨A, hA⟩ := Deep.choose_lt (α := α) (p := fun i x => ∀ r, r < size → W.cell? ((a.add (i * size)).add r) = (f x)[r]?) (n := m) (fun i hi => by
      obtain ⟨cs', h1, h2⟩ := hx i hi
      rw [hc] at h1
      obtain ⟨_, hlen, hcell⟩ := World.cells?_some h1
      obtain ⟨x, rfl⟩ := hopen _ _ _ h2 hlen
      exact ⟨x, hcell⟩)
    refine ⟨(List.range len).map A, some a, m, by simp, by simpa using hl, hm, (fun h => nomatch h), fun a' ha => ?_⟩
    cases ha
    intro j u hj
    obtain ⟨i, r, hi, hr, rfl, hu⟩ := flat_at f size hf hs _ _ _ hj
    simp only [List.length_map, List.length_range] at hi
    rw [← Deep.add_add, hA i (by omega) r hr]
    simpa using hu

instance : Inhabited Val := ⟨⟨0, 0, ⟨#[]⟩⟩⟩
instance : Inhabited Col := ⟨⟨⟨#[]⟩, 0, 0, false⟩⟩

theorem cellsStr : Try.prog.cellsOf 9 = 1 := by kernel_rfl
theorem cellsBool : Try.prog.cellsOf 4 = 1 := by kernel_rfl
theorem cellsVal : Try.prog.cellsOf 44 = 3 := by kernel_rfl
theorem cellsCol : Try.prog.cellsOf 28 = 4 := by kernel_rfl

section
variable {H : Type} {enc : TypeId × Value → H} {W : World}

theorem open_val {n : Nat} {cs : List Value} {x : DataW H × List MemPlace} (h : DataW.trod enc Try.prog W 0 (fun _ => true) true n 44 cs = some x) (hl : cs.length = 3) : ∃ a : Val, cs = a.cs := by
  obtain ⟨y0, y1, y2, n, _, _, h0, h1, h2⟩ := Deep.trod_struct3 Try.underlying44 h
  match cs, hl with
  | [c0, c1, c2], _ =>
    obtain ⟨k, e0, _⟩ := DataW.trod_int Try.underlying3 h0
    obtain ⟨m, e1, _⟩ := DataW.trod_int Try.underlying3 h1
    obtain ⟨s, e2, _⟩ := DataW.trod_string Try.underlying9 h2
    simp [cellsInt, cellsStr] at e0 e1 e2
    exact ⟨⟨k, m, s⟩, by rw [e0, e1, e2]; rfl⟩

theorem open_colc {n : Nat} {cs : List Value} {x : DataW H × List MemPlace} (h : DataW.trod enc Try.prog W 0 (fun _ => true) true n 28 cs = some x) (hl : cs.length = 4) : ∃ a : Col, cs = a.cs := by
  obtain ⟨y0, y1, y2, y3, n, _, _, h0, h1, h2, h3⟩ := Joins.trod_struct4 Try.underlying28 h
  match cs, hl with
  | [c0, c1, c2, c3], _ =>
    obtain ⟨s, e0, _⟩ := DataW.trod_string Try.underlying9 h0
    obtain ⟨k, e1, _⟩ := DataW.trod_int Try.underlying3 h1
    obtain ⟨m, e2, _⟩ := DataW.trod_int Try.underlying3 h2
    obtain ⟨b, e3, _⟩ := DataW.trod_bool Try.underlying4 h3
    simp [cellsInt, cellsStr, cellsBool] at e0 e1 e2 e3
    exact ⟨⟨s, k, m, b⟩, by rw [e0, e1, e2, e3]; rfl⟩

variable {v : Value} {d : DataW H} {p : List MemPlace} {base : Nat}

/-- A row that came in. -/
theorem open_row (hok : Value.okWide Try.prog W .any base 24 v) (h : DataW.Trod enc Try.prog W 0 (fun _ => true) true 24 v d p) : ∃ l : List Val, Rd W v l.length (rowCs l) :=
  open_list Val.cs 3 (fun _ => rfl) (by decide) elR.ty cellsVal (fun _ _ _ h hl => open_val h hl) hok h

/-- Columns that came in. -/
theorem open_cols (hok : Value.okWide Try.prog W .any base 22 v) (h : DataW.Trod enc Try.prog W 0 (fun _ => true) true 22 v d p) : ∃ l : List Col, Rd W v l.length (colsCs l) :=
  open_list Col.cs 4 (fun _ => rfl) (by decide) elC.ty cellsCol (fun _ _ _ h hl => open_colc h hl) hok h

/-- A value that came in. -/
theorem open_value (hok : Value.okWide Try.prog W .any base 44 v) (h : DataW.Trod enc Try.prog W 0 (fun _ => true) true 44 v d p) : ∃ (k n : Int) (s : ByteArray), v = .agg #[.int .i64 k, .int .i64 n, .string s] := by
  obtain ⟨v0, v1, v2, y0, y1, y2, n, rfl, _, _, h0, h1, h2⟩ := Joins.open_agg3 Try.underlying44 (by kernel_rfl) cellsVal hok h
  obtain ⟨k, e0, _⟩ := DataW.trod_int Try.underlying3 h0
  obtain ⟨m, e1, _⟩ := DataW.trod_int Try.underlying3 h1
  obtain ⟨s, e2, _⟩ := DataW.trod_string Try.underlying9 h2
  simp only [List.cons.injEq, and_true] at e0 e1 e2
  exact ⟨k, m, s, by rw [e0, e1, e2]⟩
end
end Go.Proofs.Ytdfdgnnlpopkmaa
