/-
  Layer 2 (value): a value's bytes, the value of bytes.
-/
import Derived.Test.YtliokkoalkhpaaaV
namespace Go.Proofs.Ytliokkoalkhpaaa
open Go.RowKit Go.Sort Go.BigFrame

/-- A right value's bytes. -/
def bytesV (v : Val) : List UInt8 :=
  if v.k = 1 then 1 :: put v.n else if v.k = 2 then 2 :: text v.s.data.toList else [0]

theorem right_cases {v : Val} (h : rightV v = true) : (v = ⟨0, 0, ⟨#[]⟩⟩) ∨ (∃ n, v = ⟨1, n, ⟨#[]⟩⟩ ∧ -1099511627776 ≤ n ∧ n ≤ 1099511627776) ∨ (∃ s, v = ⟨2, 0, s⟩ ∧ s.size ≤ 200) := by
  obtain ⟨k, n, s⟩ := v
  have hs : s.toList = [] → s = ⟨#[]⟩ := fun h => toList_inj (by rw [h, ByteArray.toList_eq])
  unfold rightV at h
  dsimp only at h
  by_cases h0 : k = 0
  · subst h0
    simp only [if_true, Bool.and_eq_true, decide_eq_true_eq, List.isEmpty_iff] at h
    exact .inl (by rw [h.1, hs h.2])
  · rw [if_neg h0] at h
    by_cases h1 : k = 1
    · subst h1
      simp only [if_true, Bool.and_eq_true, decide_eq_true_eq, List.isEmpty_iff] at h
      exact .inr (.inl ⟨n, by rw [hs h.1.1], h.1.2, h.2⟩)
    · rw [if_neg h1] at h
      simp only [Bool.and_eq_true, decide_eq_true_eq] at h
      exact .inr (.inr ⟨s, by rw [h.1.1, h.1.2], by omega⟩)

theorem own_lit {w : World} (x : Value) {B : Nat} (hb : B ≤ w.heap.size) (e : TypeId) (g : Nat) (hg : w.heap.size = g) : (w.alloc (.cells #[x] e)).ownsRow B e 1 (.slice (some ⟨g, 0, none⟩) 1 1) 1 [x] := by
  subst hg
  exact World.ownsRow_lit w #[x] 1 hb (by decide) rfl

theorem alloc_size (w : World) (o : Obj) : (w.alloc o).heap.size = w.heap.size + 1 := by simp

theorem own_mono0 {w : World} {B B' : Nat} {e : TypeId} {size : Nat} {v : Value} {n : Nat} {xs : List Value} (h : w.ownsRow B e size v n xs) (hB : B' ≤ B) : w.ownsRow B' e size v n xs := by
  refine ⟨h.1, ?_⟩
  rcases h.2 with hn | ⟨g, cap, cur, rfl, hbg, r⟩
  · exact .inl hn
  · exact .inr ⟨g, cap, cur, rfl, by omega, r⟩

set_option maxRecDepth 100000 in
set_option maxHeartbeats 400000 in
theorem bytesV_any (v : Val) (w : World) (hr : rightV v = true) : Calls Try.prog 62 #[v.agg] w (OwnB w (bytesV v)) := by
  rcases right_cases hr with rfl | ⟨n, rfl, hn0, hn1⟩ | ⟨s, rfl, hs⟩
  · clear hr
    have Hf : Hid (bytesV ⟨0, 0, ⟨#[]⟩⟩ = [0]) := rfl
    go_enter Try.func62, Try.ntmps62
    go_wp2_with fail
    go_ret
    rw [Hf.out]
    exact ⟨_, rfl, own_lit _ (below_alloc _ _).size _ _ (alloc_size _ _), below_alloc_then (below_alloc _ _)⟩
  · clear hr
    have Hf : Hid (bytesV ⟨1, n, ⟨#[]⟩⟩ = 1 :: put n) := rfl
    have hpl := put_len n
    go_enter Try.func62, Try.ntmps62
    go_wp2_with fail
    refine (put_any _ _ (by omega) (by omega)).mono ?_
    rintro e w1 ⟨v1, rfl, hown1, hb1⟩
    have hown0 := own_later (own_lit (w := w.alloc (.cells #[.int .i64 1, .int .i64 n, .string ⟨#[]⟩] 87)) (B := w.heap.size) (.int .u8 1) (below_alloc _ _).size 5 _ (alloc_size _ _)) hb1
    have HS := Lib.hid (Src.of_rd (P := Try.prog) (size := 1) (Rd.of_own hown1) (by simp))
    have hb2 := below_alloc_then (below_alloc_then hb1)
    clear hown1 hb1
    go_wp2_with (at_builtin; refine wpList_app elB ⟨_, Try.underlying38, fun k h => nomatch h⟩ rfl _ _ rfl rfl rfl hown0 HS.out (oneCell_bytes _) (by unfold maxLen; omega) (by omega) hb2.size ?_; intro v2 w2 hown2 hgrow2 hblk2)
    go_ret
    rw [Hf.out]
    exact ⟨_, rfl, own_bytes hown2 (by simp; omega) (by simp), below_own hb2 hown0 (Nat.le_refl _) hgrow2⟩
  · clear hr
    have Hf : Hid (bytesV ⟨2, 0, s⟩ = 2 :: text s.data.toList) := rfl
    have hln : s.data.toList.length = s.size := Array.length_toList
    have hpl : (text s.data.toList).length ≤ 210 := by
      have := put_len (s.data.toList.length : Int)
      unfold text
      rw [List.length_append]
      omega
    clear hln
    go_enter Try.func62, Try.ntmps62
    go_wp2_with fail
    refine (text_any _ _ (by omega)).mono ?_
    rintro e w1 ⟨v1, rfl, hown1, hb1⟩
    have hown0 := own_later (own_lit (w := w.alloc (.cells #[.int .i64 2, .int .i64 0, .string s] 87)) (B := w.heap.size) (.int .u8 2) (below_alloc _ _).size 5 _ (alloc_size _ _)) hb1
    have HS := Lib.hid (Src.of_rd (P := Try.prog) (size := 1) (Rd.of_own hown1) (by simp))
    have hb2 := below_alloc_then (below_alloc_then hb1)
    clear hown1 hb1
    go_wp2_with (at_builtin; refine wpList_app elB ⟨_, Try.underlying38, fun k h => nomatch h⟩ rfl _ _ rfl rfl rfl hown0 HS.out (oneCell_bytes _) (by unfold maxLen; omega) (by omega) hb2.size ?_; intro v2 w2 hown2 hgrow2 hblk2)
    go_ret
    rw [Hf.out]
    exact ⟨_, rfl, own_bytes hown2 (by simp; omega) (by simp), below_own hb2 hown0 (Nat.le_refl _) hgrow2⟩

set_option maxRecDepth 100000 in
set_option maxHeartbeats 400000 in
theorem refBytesV_any (v : Val) (w : World) (hr : rightV v = true) : Calls Try.prog 64 #[v.agg] w (OwnB w (bytesV v)) := by
  rcases right_cases hr with rfl | ⟨n, rfl, hn0, hn1⟩ | ⟨s, rfl, hs⟩
  · clear hr
    have Hf : Hid (bytesV ⟨0, 0, ⟨#[]⟩⟩ = [0]) := rfl
    go_enter Try.func64, Try.ntmps64
    go_wp2_with fail
    go_ret
    rw [Hf.out]
    exact ⟨_, rfl, own_lit _ (below_alloc _ _).size _ _ (alloc_size _ _), below_alloc_then (below_alloc _ _)⟩
  · clear hr
    have Hf : Hid (bytesV ⟨1, n, ⟨#[]⟩⟩ = 1 :: put n) := rfl
    have hpl := put_len n
    go_enter Try.func64, Try.ntmps64
    go_wp2_with fail
    refine (refPut_any _ _ (by omega) (by omega)).mono ?_
    rintro e w1 ⟨v1, rfl, hown1, hb1⟩
    have hown0 := own_later (own_lit (w := w.alloc (.cells #[.int .i64 1, .int .i64 n, .string ⟨#[]⟩] 87)) (B := w.heap.size) (.int .u8 1) (below_alloc _ _).size 5 _ (alloc_size _ _)) hb1
    have HS := Lib.hid (Src.of_rd (P := Try.prog) (size := 1) (Rd.of_own hown1) (by simp))
    have hb2 := below_alloc_then (below_alloc_then hb1)
    clear hown1 hb1
    go_wp2_with (at_builtin; refine wpList_app elB ⟨_, Try.underlying38, fun k h => nomatch h⟩ rfl _ _ rfl rfl rfl hown0 HS.out (oneCell_bytes _) (by unfold maxLen; omega) (by omega) hb2.size ?_; intro v2 w2 hown2 hgrow2 hblk2)
    go_ret
    rw [Hf.out]
    exact ⟨_, rfl, own_bytes hown2 (by simp; omega) (by simp), below_own hb2 hown0 (Nat.le_refl _) hgrow2⟩
  · clear hr
    have Hf : Hid (bytesV ⟨2, 0, s⟩ = 2 :: text s.data.toList) := rfl
    have hln : s.data.toList.length = s.size := Array.length_toList
    have hpl : (text s.data.toList).length ≤ 210 := by
      have := put_len (s.data.toList.length : Int)
      unfold text
      rw [List.length_append]
      omega
    clear hln
    go_enter Try.func64, Try.ntmps64
    go_wp2_with fail
    refine (refText_any _ _ (by omega)).mono ?_
    rintro e w1 ⟨v1, rfl, hown1, hb1⟩
    have hown0 := own_later (own_lit (w := w.alloc (.cells #[.int .i64 2, .int .i64 0, .string s] 87)) (B := w.heap.size) (.int .u8 2) (below_alloc _ _).size 5 _ (alloc_size _ _)) hb1
    have HS := Lib.hid (Src.of_rd (P := Try.prog) (size := 1) (Rd.of_own hown1) (by simp))
    have hb2 := below_alloc_then (below_alloc_then hb1)
    clear hown1 hb1
    go_wp2_with (at_builtin; refine wpList_app elB ⟨_, Try.underlying38, fun k h => nomatch h⟩ rfl _ _ rfl rfl rfl hown0 HS.out (oneCell_bytes _) (by unfold maxLen; omega) (by omega) hb2.size ?_; intro v2 w2 hown2 hgrow2 hblk2)
    go_ret
    rw [Hf.out]
    exact ⟨_, rfl, own_bytes hown2 (by simp; omega) (by simp), below_own hb2 hown0 (Nat.le_refl _) hgrow2⟩

end Go.Proofs.Ytliokkoalkhpaaa
