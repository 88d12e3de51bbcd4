/-
  Layer 24 (zset): slices.DeleteFunc at items.
-/
import Derived.Test.YtgmemdhbnnhifaaZH
namespace Go.Proofs.Ytgmemdhbnnhifaa
open Go.RowKit Go.Sort Go.BigFrame

theorem itCs_put (C : List It) (i : Nat) (hi : i < C.length) (x : It) : (((itCs C).set (i * 3) (.slice x.ra x.rn x.rc)).set (i * 3 + 1) (.int .i64 x.many)).set (i * 3 + 2) (.slice x.ba x.bn x.bc) = itCs (C.set i x) := by
  induction C generalizing i with
  | nil => cases hi
  | cons a C ih =>
    have he : itCs (a :: C) = enI a ++ itCs C := rfl
    have hc : (enI a).length = 3 := rfl
    cases i with
    | zero => rfl
    | succ i =>
      have := ih i (by simpa using hi)
      rw [he, List.set_append_right _ _ (by omega), List.set_append_right _ _ (by omega), List.set_append_right _ _ (by omega), show (i + 1) * 3 - (enI a).length = i * 3 by omega, show (i + 1) * 3 + 1 - (enI a).length = i * 3 + 1 by omega, show (i + 1) * 3 + 2 - (enI a).length = i * 3 + 2 by omega, this]
      rfl

theorem itCs_take (C : List It) (i : Nat) : (itCs C).take (i * 3) = itCs (C.take i) := by
  induction C generalizing i with
  | nil => simp [itCs]
  | cons a C ih =>
    have he : itCs (a :: C) = enI a ++ itCs C := rfl
    have hc : (enI a).length = 3 := rfl
    cases i with
    | zero => rfl
    | succ i =>
      rw [he, List.take_append, List.take_of_length_le (by omega), show (i + 1) * 3 - (enI a).length = i * 3 by omega, ih i]
      rfl

/-- An item written over another one. -/
theorem own_put {w : World} {B g c : Nat} {C : List It} (h : OwnI w B (.slice (some ⟨g, 0, none⟩) C.length c) C) (i : Nat) (hi : i < C.length) (x : It) :
    OwnI (((w.setCell ⟨g, i * 3, none⟩ (.slice x.ra x.rn x.rc)).setCell ⟨g, i * 3 + 1, none⟩ (.int .i64 x.many)).setCell ⟨g, i * 3 + 2, none⟩ (.slice x.ba x.bn x.bc)) B (.slice (some ⟨g, 0, none⟩) (C.set i x).length c) (C.set i x) := by
  have h1 := (h.stored (i * 3) (.slice x.ra x.rn x.rc)).1
  have h2 := (h1.stored (i * 3 + 1) (.int .i64 x.many)).1
  have h3 := (h2.stored (i * 3 + 2) (.slice x.ba x.bn x.bc)).1
  rw [itCs_put C i hi x] at h3
  show World.ownsRow _ B _ 3 (.slice _ (List.length _) _) (List.length _) _
  rw [List.length_set]
  exact h3

theorem run_lo_at {P : Program} {t e : TypeId} {size bytes : Nat} {z : Value} (T : El P t e size bytes z) {g n c l : Nat} (hl : l < n) (hn : n ≤ c) (W : World) :
    (Instr.sliceAt t (.slice (some ⟨g, 0, none⟩) n c) (some (.int .i64 (l : Int))) none none).run P W = .ok (.slice (some ⟨g, l * size, none⟩) (n - l) (c - l)) W := by
  obtain ⟨i, hi, hz0, hz1, hz2⟩ := T.info
  have ht : P.underlying t = some (.slice (P.elem t)) := by rw [T.elem]; exact T.ty
  rw [run_sliceAt_slice W t _ _ _ _ ht, run_slice_l W t (some ⟨g, 0, none⟩) n c ht .i64 (l : Int) (by omega) (by omega)]
  simp only [T.elem, sizeOf, Sem.run_bind, typeInfo, Int.toNat_natCast]
  have hne : ¬ c = l := by omega
  simp [hi, hz1, Result.andThen, sliced, hne, Addr.add]
  intro h; exact h.symm

theorem run_hi_at {P : Program} {t e : TypeId} {size bytes : Nat} {z : Value} (T : El P t e size bytes z) {g n c l : Nat} (hl : l ≤ n) (hn : n ≤ c) (W : World) :
    (Instr.sliceAt t (.slice (some ⟨g, 0, none⟩) n c) none (some (.int .i64 (l : Int))) none).run P W = .ok (.slice (some ⟨g, 0, none⟩) l c) W := by
  obtain ⟨i, hi, hz0, hz1, hz2⟩ := T.info
  have ht : P.underlying t = some (.slice (P.elem t)) := by rw [T.elem]; exact T.ty
  rw [run_sliceAt_slice W t _ _ _ _ ht, run_slice_h W t (some ⟨g, 0, none⟩) n c ht .i64 (l : Int) (by omega) (by omega)]
  simp only [T.elem, sizeOf, Sem.run_bind, typeInfo, Int.toNat_natCast]
  simp [hi, hz1, Result.andThen, sliced, Addr.add]

theorem run_clear_own {P : Program} {t e : TypeId} {bytes n c g o N cap B : Nat} {z : Value} (T : El P t e 3 bytes z) {w : World} {xs : List Value} (h : w.ownsRow B e 3 (.slice (some ⟨g, 0, none⟩) N cap) N xs) (hn : 0 < n) (ho : o + n * 3 ≤ N * 3) (hz : ∀ v ∈ z.cells, v.oneCell' = true) (ty : TypeId) :
    (Builtin.clear_ #[t] ty #[.slice (some ⟨g, o, none⟩) n c]).run P w = .ok (.tuple #[]) (w.setCells g o (Builtin.zeroCells z.cells n).toList) := by
  obtain ⟨i, hi, hz0, hz1, hz2⟩ := T.info
  have hzs := T.zs
  have hsz : (Builtin.zeroCells z.cells n).toList.length = n * 3 := by rw [Array.length_toList, size_zeroCells, hzs]
  have hst := run_storeCells_cells (P := P) g o (Builtin.zeroCells z.cells n).toList 0 w (fun j hj => by rw [h.cellAt _ (by omega)]; rw [List.getElem?_eq_getElem (by rw [h.1]; omega)]; rfl) (fun j hj => h.frozenAt _) (zero_one _ hz (by omega) n)
  simp only [Nat.add_zero] at hst
  obtain ⟨m, rfl⟩ : ∃ m, n = m + 1 := ⟨n - 1, by omega⟩
  simp [Builtin.clear_, run_underlying T.ty, zeroValue, typeInfo, hi, hz0, hst]
end Go.Proofs.Ytgmemdhbnnhifaa
