/-
  Layer 3 (row): rows' bytes. Plain Lean.
-/
import Derived.Test.YtliokkoalkhpaaaVG
import Derived.Test.YtliokkoalkhpaaaR
import Derived.Test.YtliokkoalkhpaaaP2
namespace Go.Proofs.Ytliokkoalkhpaaa

theorem getVal_takes : Takes getVal := by
  intro b v i h
  cases b with
  | nil => cases h
  | cons x r =>
    unfold getVal at h
    simp only at h
    split at h
    · cases hg : get r with
      | none => rw [hg] at h; cases h
      | some p =>
        obtain ⟨n, k⟩ := p
        rw [hg] at h
        have := get_le hg
        simp only at h
        split at h
        · simp only [Option.some.injEq, Prod.mk.injEq] at h
          simp only [List.length_cons]; omega
        · cases h
    · split at h
      · cases hg : getText r with
        | none => rw [hg] at h; cases h
        | some p =>
          obtain ⟨n, k⟩ := p
          rw [hg] at h
          have := getText_le hg
          simp only at h
          split at h
          · simp only [Option.some.injEq, Prod.mk.injEq] at h
            simp only [List.length_cons]; omega
          · cases h
      · split at h
        · simp only [Option.some.injEq, Prod.mk.injEq] at h
          simp only [List.length_cons]; omega
        · cases h

theorem ofNat_toNat1 {x : UInt8} {n : Nat} (h : x.toNat = n) (hn : n < 256) : x = UInt8.ofNat n := by
  apply UInt8.toNat_inj.1; rw [h, toNat_ofNat hn]

theorem getText_some {b s : List UInt8} {k : Nat} (h : getText b = some (s, k)) : b = text s ++ b.drop k ∧ k = (text s).length := by
  unfold getText at h
  cases hg : get b with
  | none => rw [hg] at h; cases h
  | some p =>
    obtain ⟨n, i⟩ := p
    rw [hg] at h
    simp only at h
    split at h
    · cases h
    · rename_i hn
      simp only [Option.some.injEq, Prod.mk.injEq] at h
      obtain ⟨m, rfl⟩ := Int.eq_ofNat_of_zero_le (show 0 ≤ n by omega)
      obtain ⟨rfl, rfl⟩ := h
      obtain ⟨_, _, h1, h2⟩ := get_some hg
      have hl := get_le hg
      have hlen : ((b.drop i).take (m : Int).toNat).length = m := by simp; omega
      constructor
      · unfold text
        rw [hlen, List.append_assoc, ← List.drop_drop, List.take_append_drop]; exact h1
      · unfold text
        rw [hlen, List.length_append, hlen, ← h2]; simp

theorem bytes_arr (s : ByteArray) : (⟨s.data.toList.toArray⟩ : ByteArray) = s := by simp

theorem getVal_puts : Puts getVal bytesV (fun v => rightV v = true) := by
  constructor
  · intro v r hv
    rcases right_cases hv with rfl | ⟨n, rfl, h0, h1⟩ | ⟨s, rfl, hs⟩
    · rfl
    · show getVal (1 :: put n ++ r) = some (⟨1, n, ⟨#[]⟩⟩, (1 :: put n).length)
      have : getVal (1 :: (put n ++ r)) = _ := getVal_int (by simp) rfl
      rw [List.cons_append, this]
      simp only [List.drop_succ_cons, List.drop_zero]
      rw [get_put n (by omega) (by omega)]
      simp [hv]
    · show getVal (2 :: text s.data.toList ++ r) = some (⟨2, 0, s⟩, (2 :: text s.data.toList).length)
      have : getVal (2 :: (text s.data.toList ++ r)) = _ := getVal_text (by simp) rfl
      rw [List.cons_append, this]
      simp only [List.drop_succ_cons, List.drop_zero]
      have hl : s.data.toList.length = s.size := Array.length_toList
      rw [getText_text _ _ (by omega)]
      simp only [bytes_arr, hv, if_true, List.length_cons]
  · intro b v i h
    cases b with
    | nil => cases h
    | cons x r =>
      by_cases h1 : x.toNat = 1
      · have e : getVal (x :: r) = _ := getVal_int (by simp) h1
        rw [e] at h
        simp only [List.drop_succ_cons, List.drop_zero] at h
        cases hg : get r with
        | none => rw [hg] at h; cases h
        | some p =>
          obtain ⟨n, k⟩ := p
          rw [hg] at h
          simp only at h
          split at h
          · rename_i hr
            simp only [Option.some.injEq, Prod.mk.injEq] at h
            obtain ⟨rfl, rfl⟩ := h
            obtain ⟨_, _, g1, g2⟩ := get_some hg
            have hx : x = 1 := ofNat_toNat1 h1 (by decide)
            refine ⟨hr, ?_, ?_⟩
            · show x :: r = 1 :: put n ++ (x :: r).drop (k + 1)
              rw [List.cons_append, hx, List.drop_succ_cons, ← g1]
            · show k + 1 = (1 :: put n).length
              rw [List.length_cons, ← g2]
          · cases h
      · by_cases h2 : x.toNat = 2
        · have e : getVal (x :: r) = _ := getVal_text (by simp) h2
          rw [e] at h
          simp only [List.drop_succ_cons, List.drop_zero] at h
          cases hg : getText r with
          | none => rw [hg] at h; cases h
          | some p =>
            obtain ⟨s, k⟩ := p
            rw [hg] at h
            simp only at h
            split at h
            · rename_i hr
              simp only [Option.some.injEq, Prod.mk.injEq] at h
              obtain ⟨rfl, rfl⟩ := h
              obtain ⟨g1, g2⟩ := getText_some hg
              have hx : x = 2 := ofNat_toNat1 h2 (by decide)
              refine ⟨hr, ?_, ?_⟩
              · show x :: r = 2 :: text s ++ (x :: r).drop (k + 1)
                rw [List.cons_append, hx, List.drop_succ_cons, ← g1]
              · show k + 1 = (2 :: text s).length
                rw [List.length_cons, ← g2]
            · cases h
        · have e : getVal (x :: r) = _ := getVal_other (by simp) h1 h2
          rw [e] at h
          split at h
          · rename_i h0
            simp only [Option.some.injEq, Prod.mk.injEq] at h
            obtain ⟨rfl, rfl⟩ := h
            have hx : x = 0 := ofNat_toNat1 h0 (by decide)
            refine ⟨by show rightV ⟨0, 0, ⟨#[]⟩⟩ = true; simp [rightV, ByteArray.toList_eq], ?_, rfl⟩
            show x :: r = 0 :: r
            rw [hx]
          · cases h

abbrev bytesR (l : List Val) : List UInt8 := putL bytesV l
abbrev getR (b : List UInt8) : Option (List Val × Nat) := getL getVal b

theorem bytesV_len {v : Val} (h : rightV v = true) : 1 ≤ (bytesV v).length ∧ (bytesV v).length ≤ 211 := by
  rcases right_cases h with rfl | ⟨n, rfl, h0, h1⟩ | ⟨s, rfl, hs⟩
  · exact ⟨by decide, by decide⟩
  · have := put_len n
    show 1 ≤ (1 :: put n).length ∧ (1 :: put n).length ≤ 211
    simp only [List.length_cons]; omega
  · have hl : s.data.toList.length = s.size := Array.length_toList
    have := put_len (s.data.toList.length : Int)
    show 1 ≤ (2 :: text s.data.toList).length ∧ (2 :: text s.data.toList).length ≤ 211
    simp only [List.length_cons, text, List.length_append]; omega

theorem flatV_len (l : List Val) (h : allR l = true) : (l.flatMap bytesV).length ≤ 211 * l.length := by
  induction l with
  | nil => simp
  | cons v l ih =>
    simp only [allR, List.all_cons, Bool.and_eq_true] at h
    have h1 := (bytesV_len h.1).2
    have h2 := ih h.2
    simp only [List.flatMap_cons, List.length_append, List.length_cons]
    omega
end Go.Proofs.Ytliokkoalkhpaaa
