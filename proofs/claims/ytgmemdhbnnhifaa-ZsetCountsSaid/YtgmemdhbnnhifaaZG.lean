/-
  Layer 24 (zset): slices.IndexFunc, slices.DeleteFunc at items.
-/
import Derived.Test.YtgmemdhbnnhifaaZF
namespace Go.Proofs.Ytgmemdhbnnhifaa
open Go.RowKit Go.Sort Go.BigFrame

/-- What is asked of a test. -/
structure PredOk (g : Nat) (p : It → Bool) : Prop where
  eg : ∀ args w, (callFunc g args).run Try.prog w = .ok (.enter g args) w
  call : ∀ (x : It) (W : World), Calls Try.prog g #[x.agg] W fun e w' => e = .returned (.bool (p x)) ∧ Below W.heap.size W w'

set_option maxRecDepth 100000 in
theorem of1_ok : PredOk 35 (fun x => decide (x.many = 0)) := by
  refine ⟨enters_of Try.func35 (by kernel_rfl) rfl, fun x w => ?_⟩
  go_enter Try.func35, Try.ntmps35
  go_wp2
  go_ret
  exact ⟨by first | rfl | exact ret_bool (by simp), below_alloc _ _⟩

set_option maxRecDepth 100000 in
theorem set1_ok : PredOk 39 (fun x => decide (x.many < 0)) := by
  refine ⟨enters_of Try.func39 (by kernel_rfl) rfl, fun x w => ?_⟩
  go_enter Try.func39, Try.ntmps39
  go_wp2
  go_ret
  exact ⟨by first | rfl | exact ret_bool (by simp), below_alloc _ _⟩

def IdxPost (w : World) (p : It → Bool) (l : List It) (e : Ending) (w' : World) : Prop :=
  ((e = .returned (.int .i64 (-1)) ∧ ∀ x ∈ l, p x = false) ∨ ∃ k : Nat, ∃ hk : k < l.length, e = .returned (.int .i64 k) ∧ p l[k] = true ∧ ∀ x ∈ l.take k, p x = false) ∧ Below w.heap.size w w'

set_option maxRecDepth 100000 in
set_option maxHeartbeats 1000000 in
theorem index_any {g : Nat} {p : It → Bool} (C : PredOk g p) (v : Value) (l : List It) (w : World) (h : Rd w v l.length (itCs l)) (hn : l.length ≤ 1000000) :
    Calls Try.prog 46 #[v, .func (.func g) #[] #[]] w (IdxPost w p l) := by
  obtain ⟨ao, c, rfl, hnc, hcm, _, _⟩ := id h
  obtain ⟨n, hln⟩ : ∃ n, l.length = n := ⟨_, rfl⟩
  have HA := Lib.hid h
  have HLN := Lib.hid hln
  have heg := C.eg
  have HC := Lib.hid C.call
  rw [hln] at hn hnc ⊢
  unfold maxLen at hcm
  clear h hln C
  go_enter Try.func46, Try.ntmps46
  go_wp2
  go_loopw [8] (fun vi wr => ∃ k : Nat, k ≤ n ∧ vi = .int .i64 k ∧ Hid (∀ x ∈ l.take k, p x = false) ∧ Hid (Below w.heap.size w wr)) (fun vi _ => n - (intOf vi).toNat)
  case atStart => exact ⟨0, Nat.zero_le _, rfl, (fun x hx => by simp at hx), Below.refl _ _⟩
  case round =>
    obtain ⟨k, hk, rfl, hno, hbw⟩ := hrel
    rename World => wr
    by_cases hlt : k < n
    · have hkl : k < l.length := by have := HLN.out; omega
      obtain ⟨b1, o1, x1, c0, c1, c2, _⟩ := rd_it (HA.out.later hbw.out) rfl k hkl
      rw [HLN.out] at x1
      cases hp : p l[k]
      · have hno' : Hid (∀ x ∈ l.take (k + 1), p x = false) := by
          intro x hx
          rw [List.take_succ_eq_append_getElem hkl] at hx
          rcases List.mem_append.1 hx with hx | hx
          · exact hno.out x hx
          · rw [List.mem_singleton.1 hx]; exact hp
        have hcall := HC.out l[k] wr
        rw [hp] at hcall
        have HCL := Lib.hid hcall
        clear hcall hp
        generalize l[k] = x at *
        go_wp2_with fail
        refine HCL.out.mono ?_
        rintro e w2 ⟨rfl, hb2⟩
        have HB2 := Lib.hid (below_then hbw.out hb2)
        clear hb2
        go_wp2_with fail
        go_roundw
        case rel => exact ⟨k + 1, by omega, by go_num, hno', HB2.out⟩
        case measure => simp [intOf]; omega
      · have HP := Lib.hid hp
        have hcall := HC.out l[k] wr
        rw [hp] at hcall
        have HCL := Lib.hid hcall
        clear hcall hp
        obtain ⟨x, hx⟩ : ∃ x, l[k] = x := ⟨_, rfl⟩
        rw [hx] at c0 c1 c2 HCL
        clear hx
        go_wp2_with fail
        refine HCL.out.mono ?_
        rintro e w2 ⟨rfl, hb2⟩
        have HB2 := Lib.hid (below_then hbw.out hb2)
        clear hb2
        go_wp2_with fail
        go_ret
        exact ⟨.inr ⟨k, hkl, rfl, HP.out, hno.out⟩, HB2.out⟩
    · have hkn : k = n := by omega
      subst hkn
      have he : ∀ x ∈ l, p x = false := by
        have := hno.out
        rwa [List.take_of_length_le (by have := HLN.out; omega)] at this
      have HE := Lib.hid he
      clear he
      go_wp2_with fail
      go_ret
      exact ⟨.inl ⟨rfl, HE.out⟩, hbw.out⟩
end Go.Proofs.Ytgmemdhbnnhifaa
