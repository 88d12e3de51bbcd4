/-
  The worlds of a sort in place, for elements of 11 cells. (printed by tools/gen_kn.py)
-/
import Derived.Test.YtnpciogpegmejaaSK
namespace Go.Proofs.Ytnpciogpegmejaa
open Go.RowKit Go.Sort
section
variable {α : Type} [Inhabited α] {enc : α → List Value} {w0 : World} {blk off n : Nat} {l0 : List α}
theorem SB.cell11 {P S : List α} {x : α} {W : World} (h : SB enc 11 w0 blk off (P ++ x :: S) W) (R : Rw enc 11 w0 blk off n l0) (hl : (P ++ x :: S).length = n) {i : Nat} (hi : i = P.length) {u0 u1 u2 u3 u4 u5 u6 u7 u8 u9 u10 : Value} (hv : enc x = [u0, u1, u2, u3, u4, u5, u6, u7, u8, u9, u10]) :
    W.cell? ⟨blk, off + i * 11, none⟩ = some u0 ∧ W.cell? ⟨blk, off + i * 11 + 1, none⟩ = some u1 ∧ W.cell? ⟨blk, off + i * 11 + 2, none⟩ = some u2 ∧ W.cell? ⟨blk, off + i * 11 + 3, none⟩ = some u3 ∧ W.cell? ⟨blk, off + i * 11 + 4, none⟩ = some u4 ∧ W.cell? ⟨blk, off + i * 11 + 5, none⟩ = some u5 ∧ W.cell? ⟨blk, off + i * 11 + 6, none⟩ = some u6 ∧ W.cell? ⟨blk, off + i * 11 + 7, none⟩ = some u7 ∧ W.cell? ⟨blk, off + i * 11 + 8, none⟩ = some u8 ∧ W.cell? ⟨blk, off + i * 11 + 9, none⟩ = some u9 ∧ W.cell? ⟨blk, off + i * 11 + 10, none⟩ = some u10 ∧ W.frozen? ⟨blk, off + i * 11, none⟩ = false ∧ W.frozen? ⟨blk, off + i * 11 + 1, none⟩ = false ∧ W.frozen? ⟨blk, off + i * 11 + 2, none⟩ = false ∧ W.frozen? ⟨blk, off + i * 11 + 3, none⟩ = false ∧ W.frozen? ⟨blk, off + i * 11 + 4, none⟩ = false ∧ W.frozen? ⟨blk, off + i * 11 + 5, none⟩ = false ∧ W.frozen? ⟨blk, off + i * 11 + 6, none⟩ = false ∧ W.frozen? ⟨blk, off + i * 11 + 7, none⟩ = false ∧ W.frozen? ⟨blk, off + i * 11 + 8, none⟩ = false ∧ W.frozen? ⟨blk, off + i * 11 + 9, none⟩ = false ∧ W.frozen? ⟨blk, off + i * 11 + 10, none⟩ = false := by
  have hx : (P ++ x :: S).toArray[i]! = x := get_mid (d := (P ++ x :: S).toArray) rfl hi
  have hil : i < (P ++ x :: S).toArray.size := by simp; omega
  have c0 := HoldsK.cell (h.holds R hl) (i := i) (c := 0) hil (by decide)
  have c1 := HoldsK.cell (h.holds R hl) (i := i) (c := 1) hil (by decide)
  have c2 := HoldsK.cell (h.holds R hl) (i := i) (c := 2) hil (by decide)
  have c3 := HoldsK.cell (h.holds R hl) (i := i) (c := 3) hil (by decide)
  have c4 := HoldsK.cell (h.holds R hl) (i := i) (c := 4) hil (by decide)
  have c5 := HoldsK.cell (h.holds R hl) (i := i) (c := 5) hil (by decide)
  have c6 := HoldsK.cell (h.holds R hl) (i := i) (c := 6) hil (by decide)
  have c7 := HoldsK.cell (h.holds R hl) (i := i) (c := 7) hil (by decide)
  have c8 := HoldsK.cell (h.holds R hl) (i := i) (c := 8) hil (by decide)
  have c9 := HoldsK.cell (h.holds R hl) (i := i) (c := 9) hil (by decide)
  have c10 := HoldsK.cell (h.holds R hl) (i := i) (c := 10) hil (by decide)
  rw [hx, hv] at c0 c1 c2 c3 c4 c5 c6 c7 c8 c9 c10
  exact ⟨c0.1, c1.1, c2.1, c3.1, c4.1, c5.1, c6.1, c7.1, c8.1, c9.1, c10.1, c0.2, c1.2, c2.2, c3.2, c4.2, c5.2, c6.2, c7.2, c8.2, c9.2, c10.2⟩

abbrev set11 (W : World) (b o : Nat) (x0 x1 x2 x3 x4 x5 x6 x7 x8 x9 x10 : Value) : World := (((((((((((W.setCell ⟨b, o, none⟩ x0).setCell ⟨b, o + 1, none⟩ x1).setCell ⟨b, o + 1 + 1, none⟩ x2).setCell ⟨b, o + 1 + 1 + 1, none⟩ x3).setCell ⟨b, o + 1 + 1 + 1 + 1, none⟩ x4).setCell ⟨b, o + 1 + 1 + 1 + 1 + 1, none⟩ x5).setCell ⟨b, o + 1 + 1 + 1 + 1 + 1 + 1, none⟩ x6).setCell ⟨b, o + 1 + 1 + 1 + 1 + 1 + 1 + 1, none⟩ x7).setCell ⟨b, o + 1 + 1 + 1 + 1 + 1 + 1 + 1 + 1, none⟩ x8).setCell ⟨b, o + 1 + 1 + 1 + 1 + 1 + 1 + 1 + 1 + 1, none⟩ x9).setCell ⟨b, o + 1 + 1 + 1 + 1 + 1 + 1 + 1 + 1 + 1 + 1, none⟩ x10)

theorem SB.swapped11 {P M S : List α} {x y : α} {W : World} (h : SB enc 11 w0 blk off (P ++ x :: (M ++ y :: S)) W) (R : Rw enc 11 w0 blk off n l0) {i j : Nat} (hi : i = P.length) (hj : j = P.length + 1 + M.length) {u0 u1 u2 u3 u4 u5 u6 u7 u8 u9 u10 v0 v1 v2 v3 v4 v5 v6 v7 v8 v9 v10 : Value} (hu : enc x = [u0, u1, u2, u3, u4, u5, u6, u7, u8, u9, u10]) (hv : enc y = [v0, v1, v2, v3, v4, v5, v6, v7, v8, v9, v10]) :
    SB enc 11 w0 blk off (P ++ y :: (M ++ x :: S)) (set11 (set11 W blk (off + i * 11) v0 v1 v2 v3 v4 v5 v6 v7 v8 v9 v10) blk (off + j * 11) u0 u1 u2 u3 u4 u5 u6 u7 u8 u9 u10) := by
  have := h.swapped R hi hj
  rw [hu, hv] at this
  exact this

theorem SB.swapped11' {P M S : List α} {x y : α} {W : World} (h : SB enc 11 w0 blk off (P ++ x :: (M ++ y :: S)) W) (R : Rw enc 11 w0 blk off n l0) {i j : Nat} (hi : i = P.length) (hj : j = P.length + 1 + M.length) {u0 u1 u2 u3 u4 u5 u6 u7 u8 u9 u10 v0 v1 v2 v3 v4 v5 v6 v7 v8 v9 v10 : Value} (hu : enc x = [u0, u1, u2, u3, u4, u5, u6, u7, u8, u9, u10]) (hv : enc y = [v0, v1, v2, v3, v4, v5, v6, v7, v8, v9, v10]) :
    SB enc 11 w0 blk off (P ++ y :: (M ++ x :: S)) (set11 (set11 W blk (off + j * 11) u0 u1 u2 u3 u4 u5 u6 u7 u8 u9 u10) blk (off + i * 11) v0 v1 v2 v3 v4 v5 v6 v7 v8 v9 v10) := by
  have := h.swapped' R hi hj
  rw [hu, hv] at this
  exact this
end
end Go.Proofs.Ytnpciogpegmejaa
