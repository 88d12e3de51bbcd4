/-
  Layer 24 (zset): items by their rows.
-/
import Derived.Test.YtgmemdhbnnhifaaZB
import Derived.Test.YtgmemdhbnnhifaaZM
namespace Go.Proofs.Ytgmemdhbnnhifaa
open Go.RowKit Go.Sort Go.BigFrame

/-- What is handed back reads as n items of the cells xs. -/
def RdPost (w : World) (n : Nat) (xs : List Value) (e : Ending) (w' : World) : Prop := ∃ v', e = .returned v' ∧ Rd w' v' n xs ∧ Below w.heap.size w w' ∧ ∀ k, v'.ownBlock = some k → w.heap.size ≤ k ∧ k < w'.heap.size

set_option maxRecDepth 100000 in
set_option maxHeartbeats 1000000 in
theorem sorted_any (va : Value) (l : List It) (w : World) (h : IRd w va l) (hn : l.length ≤ 1000000) :
    Calls Try.prog 32 #[.agg #[va]] w (RdPost w l.length (itCs (isortL (ltC cmpIt) l))) := by
  obtain ⟨ao, c, rfl, hnc, hcm, _, _⟩ := id h.1
  have HA := Lib.hid h
  obtain ⟨n, hln⟩ : ∃ n, l.length = n := ⟨_, rfl⟩
  have hb0 := below_alloc w (.cells #[.slice ao n c] 45)
  have hc0 : Calls Try.prog 38 #[.slice ao n c] (w.alloc (.cells #[.slice ao n c] 45)) (OwnPost (w.alloc (.cells #[.slice ao n c] 45)) n (itCs l)) := by
    have h1 := h.1.later hb0
    have := clone_any _ l _ h1 hn
    rwa [hln] at this
  have HC := Lib.hid hc0
  have HB0 := Lib.hid hb0
  have HLN := Lib.hid hln
  have HN := Lib.hid hn
  rw [hln] at hnc ⊢
  clear h hcm hln hb0 hc0 hn
  go_enter Try.func32, Try.ntmps32
  go_wp2_with fail
  refine HC.out.mono ?_
  rintro e w1 ⟨v1, rfl, hown, hb1⟩
  have hs := sortI_any w _ v1 l w1 (by rw [HLN.out]; exact hown) (below_then HB0.out hb1) HB0.out.size (HA.out.2) HN.out
  have HS := Lib.hid hs
  have HK := Lib.hid hown.lt
  clear hown hs HC
  go_wp2_with fail
  refine HS.out.mono ?_
  rintro e w2 ⟨rfl, hr, hb2, hbs⟩
  have HBS := Lib.hid hbs
  rw [HLN.out] at hr
  have HR := Lib.hid hr
  have HB2 := Lib.hid hb2
  clear hr hb2 hb1 hbs
  go_wp2_with fail
  go_ret
  exact ⟨_, rfl, HR.out, HB2.out, fun k hk => ⟨Nat.le_trans HB0.out.size (HK.out k hk).1, Nat.lt_of_lt_of_le (HK.out k hk).2 HBS.out⟩⟩
end Go.Proofs.Ytgmemdhbnnhifaa
