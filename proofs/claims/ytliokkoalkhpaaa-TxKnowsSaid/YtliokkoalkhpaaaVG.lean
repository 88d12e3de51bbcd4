/-
  Layer 2 (value): the value with which bytes begin.
-/
import Derived.Test.YtliokkoalkhpaaaVB
namespace Go.Proofs.Ytliokkoalkhpaaa
open Go.RowKit Go.Sort Go.BigFrame

/-- The value with which bytes begin, and how many bytes it has. -/
def getVal (b : List UInt8) : Option (Val × Nat) := match b with
  | [] => none
  | x :: r =>
    if x.toNat = 1 then (match get r with
      | none => none
      | some (n, k) => if rightV ⟨1, n, ⟨#[]⟩⟩ then some (⟨1, n, ⟨#[]⟩⟩, k + 1) else none)
    else if x.toNat = 2 then (match getText r with
      | none => none
      | some (s, k) => if rightV ⟨2, 0, ⟨s.toArray⟩⟩ then some (⟨2, 0, ⟨s.toArray⟩⟩, k + 1) else none)
    else if x.toNat = 0 then some (⟨0, 0, ⟨#[]⟩⟩, 1) else none

def getValV (b : List UInt8) : Value := match getVal b with
  | none => .tuple #[.agg #[.int .i64 0, .int .i64 0, .string ⟨#[]⟩], .int .i64 0, .int .i64 3]
  | some (v, k) => .tuple #[v.agg, .int .i64 k, .int .i64 0]

theorem getVal_nil : getVal [] = none := rfl

theorem rd_head {w : World} {ao : Option Addr} {n c : Nat} {b : List UInt8} (h : Rd w (.slice ao n c) n (b.map bc)) (hl : n = b.length) (hb : 0 < b.length) :
    ∃ (A : Addr) (a1 : Option Addr) (c1 : Nat), (∀ W, (Instr.indexAt 38 (.slice ao n c) (.int .i64 0)).run Try.prog W = .ok (.pointer (some A)) W) ∧ w.cell? A = some (.int .u8 (b[0].toNat : Int)) ∧
      (∀ W, (Instr.sliceAt 38 (.slice ao n c) (some (.int .i64 1)) none none).run Try.prog W = .ok (.slice a1 (n - 1) c1) W) ∧ Hid (Rd w (.slice a1 (n - 1) c1) (n - 1) ((b.drop 1).map bc)) := by
  obtain ⟨A, hi0, hc0, _⟩ := rd_byte h hl 0 hb
  obtain ⟨a1, c1, hs0, hrd⟩ := run_part_lo elB h (by simp [hl]) 1 (by omega)
  exact ⟨A, a1, c1, hi0, hc0, hs0, by rw [List.map_drop]; exact hrd⟩

set_option maxRecDepth 100000 in
set_option maxHeartbeats 400000 in
theorem rightV_ex (k n : Int) (s : ByteArray) (w : World) :
    Calls Try.prog 87 #[.agg #[.int .i64 k, .int .i64 n, .string s]] w fun e w' => e = .returned (.bool (rightV ⟨k, n, s⟩)) ∧ w' = w.alloc (.cells #[.int .i64 k, .int .i64 n, .string s] 87) := by
  go_enter Try.func87, Try.ntmps87
  go_wp2
  all_goals (go_ret; refine ⟨ret_bool ?_, ?_⟩)
  all_goals first
    | rfl
    | (simp_all [rightV]; done)
    | (simp_all [rightV]; omega)

theorem getValV_no {b : List UInt8} (h : getVal b = none) : getValV b = .tuple #[.agg #[.int .i64 0, .int .i64 0, .string ⟨#[]⟩], .int .i64 0, .int .i64 3] := by
  unfold getValV; rw [h]
theorem getValV_yes {b : List UInt8} {v : Val} {k : Nat} (h : getVal b = some (v, k)) : getValV b = .tuple #[v.agg, .int .i64 k, .int .i64 0] := by
  unfold getValV; rw [h]

theorem getVal_int {b : List UInt8} (hb : 0 < b.length) (h1 : b[0].toNat = 1) : getVal b = match get (b.drop 1) with
      | none => none
      | some (n, k) => if rightV ⟨1, n, ⟨#[]⟩⟩ then some (⟨1, n, ⟨#[]⟩⟩, k + 1) else none := by
  cases b with
  | nil => cases hb
  | cons x r => have h1' : x.toNat = 1 := h1; simp only [getVal, h1', if_true, List.drop_succ_cons, List.drop_zero]
theorem getVal_text {b : List UInt8} (hb : 0 < b.length) (h1 : b[0].toNat = 2) : getVal b = match getText (b.drop 1) with
      | none => none
      | some (s, k) => if rightV ⟨2, 0, ⟨s.toArray⟩⟩ then some (⟨2, 0, ⟨s.toArray⟩⟩, k + 1) else none := by
  cases b with
  | nil => cases hb
  | cons x r => have h1' : x.toNat = 2 := h1; simp [getVal, h1']
theorem getVal_other {b : List UInt8} (hb : 0 < b.length) (h1 : b[0].toNat ≠ 1) (h2 : b[0].toNat ≠ 2) : getVal b = if b[0].toNat = 0 then some (⟨0, 0, ⟨#[]⟩⟩, 1) else none := by
  cases b with
  | nil => cases hb
  | cons x r => have h1' : x.toNat ≠ 1 := h1; have h2' : x.toNat ≠ 2 := h2; simp [getVal, h1', h2']

theorem getValV_yes1 {b : List UInt8} {v : Val} {k : Nat} (h : getVal b = some (v, k + 1)) : getValV b = .tuple #[v.agg, .int .i64 (1 + (k : Int)), .int .i64 0] := by
  rw [getValV_yes h, show ((k + 1 : Nat) : Int) = 1 + (k : Int) by omega]
theorem getValV_yes2 {b : List UInt8} {v : Val} {k : Nat} (h : getVal b = some (v, k + 1)) : getValV b = .tuple #[v.agg, .int .i64 ((k : Int) + 1), .int .i64 0] := by
  rw [getValV_yes h, show ((k + 1 : Nat) : Int) = (k : Int) + 1 by omega]

theorem rightV_bad {k : Int} (h0 : k ≠ 0) (h1 : k ≠ 1) (h2 : k ≠ 2) (s : ByteArray) : rightV ⟨k, 0, s⟩ = false := by
  simp [rightV, h0, h1, h2]

theorem two_later {w w1 : World} {a0 a1 a2 b0 b1 b2 : Value} {e e' : TypeId}
    (h : Below ((w.alloc (.cells #[a0, a1, a2] e)).alloc (.cells #[b0, b1, b2] e')).heap.size ((w.alloc (.cells #[a0, a1, a2] e)).alloc (.cells #[b0, b1, b2] e')) w1) :
    (w1.cell? ⟨w.heap.size, 0, none⟩ = some a0 ∧ w1.cell? ⟨w.heap.size, 1, none⟩ = some a1 ∧ w1.cell? ⟨w.heap.size, 2, none⟩ = some a2) ∧
    (w1.cell? ⟨w.heap.size + 1, 0, none⟩ = some b0 ∧ w1.cell? ⟨w.heap.size + 1, 1, none⟩ = some b1 ∧ w1.cell? ⟨w.heap.size + 1, 2, none⟩ = some b2) ∧
    (∀ j, w1.frozen? ⟨w.heap.size, j, none⟩ = false) ∧ (∀ j, w1.frozen? ⟨w.heap.size + 1, j, none⟩ = false) ∧ w.heap.size < w1.heap.size ∧ w.heap.size + 1 < w1.heap.size := by
  refine ⟨⟨cell_later h ?_, cell_later h ?_, cell_later h ?_⟩, ⟨cell_later h ?_, cell_later h ?_, cell_later h ?_⟩, ?_, ?_, ?_, ?_⟩
  · simp [go_sem]
  · simp [go_sem]
  · simp [go_sem]
  · simp [go_sem]
  · simp [go_sem]
  · simp [go_sem]
  · intro j; rw [h.frozen (by simp; try omega)]; simp [go_sem]
  · intro j; rw [h.frozen (by simp; try omega)]; simp [go_sem]
  · have := h.size; simp at this; omega
  · have := h.size; simp at this; omega

set_option maxRecDepth 100000 in
set_option maxHeartbeats 400000 in
theorem refRightV_ex (k n : Int) (s : ByteArray) (w : World) :
    Calls Try.prog 57 #[.agg #[.int .i64 k, .int .i64 n, .string s]] w fun e w' => e = .returned (.bool (rightV ⟨k, n, s⟩)) ∧ w' = w.alloc (.cells #[.int .i64 k, .int .i64 n, .string s] 87) := by
  go_enter Try.func57, Try.ntmps57
  go_wp2
  all_goals (go_ret; refine ⟨ret_bool ?_, ?_⟩)
  all_goals first
    | rfl
    | (simp_all [rightV]; done)
    | (simp_all [rightV]; omega)

theorem refGetText_yes {v : Value} {b s : List UInt8} {n k : Nat} {w : World} (h : Rd w v n (b.map bc)) (hn : n = b.length) (hg : getText b = some (s, k)) :
    Calls Try.prog 88 #[v] w fun e w' => e = .returned (.tuple #[.string ⟨s.toArray⟩, .int .i64 k, .int .i64 0]) ∧ Below w.heap.size w w' := by
  subst hn
  have := refGetText_any v b w h
  unfold getTextV at this
  rw [hg] at this
  exact this

theorem refGetText_no {v : Value} {b : List UInt8} {n : Nat} {w : World} (h : Rd w v n (b.map bc)) (hn : n = b.length) (hg : getText b = none) :
    Calls Try.prog 88 #[v] w fun e w' => e = .returned (.tuple #[.string ⟨#[]⟩, .int .i64 0, .int .i64 3]) ∧ Below w.heap.size w w' := by
  subst hn
  have := refGetText_any v b w h
  unfold getTextV at this
  rw [hg] at this
  exact this

set_option maxRecDepth 100000 in
set_option maxHeartbeats 2000000 in
theorem getVal_any (v : Value) (b : List UInt8) (w : World) (h : Rd w v b.length (b.map bc)) :
    Calls Try.prog 68 #[v] w fun e w' => e = .returned (getValV b) ∧ Below w.heap.size w w' := by
  obtain ⟨ao, c, rfl, hna, hma, _, _⟩ := id h
  unfold maxLen at hma
  have HA := Lib.hid h
  clear h
  by_cases hb0 : b.length = 0
  · have Hf : Hid (getValV b = .tuple #[.agg #[.int .i64 0, .int .i64 0, .string ⟨#[]⟩], .int .i64 0, .int .i64 3]) := getValV_no (by rw [List.length_eq_zero_iff.1 hb0]; rfl)
    have hE : ((b.length : Int) == 0) = true := by simp [hb0]
    clear hb0
    go_enter Try.func68, Try.ntmps68
    go_wp2_with (first | fail)
    rw [Hf.out]
    refine bodyPost_ret (by simp [results, Try.results68, go_sem]) rfl ⟨rfl, ?_⟩
    repeat' (first | with_reducible apply Below.setCell | with_reducible apply Below.alloc | with_reducible exact Below.refl _ _)
    all_goals (simp; try omega)
  · have hE : ((b.length : Int) == 0) = false := by rw [beq_eq_false_iff_ne]; omega
    have hb1 : 0 < b.length := by omega
    obtain ⟨A, a1, c1, hi, hc0, hs, HR⟩ := rd_head HA.out rfl hb1
    have hx := b[0].toNat_lt
    clear hb0
    by_cases h1 : b[0].toNat = 1
    · have hgi := Lib.hid (getVal_int hb1 h1)
      rw [h1] at hc0
      clear h1 hx
      have hcA := fun o => cell_later (below_alloc w o) hc0
      cases hg : get (b.drop 1) with
      | none =>
        have Hf := Lib.hid (getValV_no (b := b) (by rw [hgi.out, hg]))
        have HG := Lib.hid hg
        clear hg hgi
        go_enter Try.func68, Try.ntmps68
        go_wp2_with (first | (go_at_call 85; refine (get_no (HR.out.later (below_alloc_then (below_alloc _ _))) (by simp) HG.out).mono ?_; rintro e w1 ⟨rfl, rfl⟩))
        rw [Hf.out]
        refine bodyPost_ret (by simp [results, Try.results68, go_sem]) rfl ⟨rfl, ?_⟩
        repeat' (first | with_reducible apply Below.setCell | with_reducible apply Below.alloc | with_reducible exact Below.refl _ _)
        all_goals (simp; try omega)
      | some p =>
        obtain ⟨n, kk⟩ := p
        have hle := get_le hg
        have hbd := get_some hg
        have hn0 := hbd.1
        have hn1 := hbd.2.1
        have hln : (b.drop 1).length = b.length - 1 := by simp
        clear hbd
        cases hr : rightV ⟨1, n, ⟨#[]⟩⟩
        · have Hf := Lib.hid (getValV_no (b := b) (by rw [hgi.out, hg]; simp [hr]))
          have HG := Lib.hid hg
          have HRR := Lib.hid hr
          clear hg hr hgi
          go_enter Try.func68, Try.ntmps68
          go_wp2_with (first | (go_at_call 85; refine (get_yes (HR.out.later (below_alloc_then (below_alloc _ _))) (by simp) HG.out).mono ?_; rintro e w1 ⟨rfl, rfl⟩) | (go_at_call 87; refine (rightV_ex _ _ _ _).mono ?_; rintro e w1 ⟨rfl, rfl⟩; rw [HRR.out]))
          rw [Hf.out]
          refine bodyPost_ret (by simp [results, Try.results68, go_sem]) rfl ⟨rfl, ?_⟩
          repeat' (first | with_reducible apply Below.setCell | with_reducible apply Below.alloc | with_reducible exact Below.refl _ _)
          all_goals (simp; try omega)
        · have Hf := Lib.hid (getValV_yes1 (b := b) (k := kk) (v := ⟨1, n, ⟨#[]⟩⟩) (by rw [hgi.out, hg]; simp [hr]))
          have HG := Lib.hid hg
          have HRR := Lib.hid hr
          clear hg hr hgi
          go_enter Try.func68, Try.ntmps68
          go_wp2_with (first | (go_at_call 85; refine (get_yes (HR.out.later (below_alloc_then (below_alloc _ _))) (by simp) HG.out).mono ?_; rintro e w1 ⟨rfl, rfl⟩) | (go_at_call 87; refine (rightV_ex _ _ _ _).mono ?_; rintro e w1 ⟨rfl, rfl⟩; rw [HRR.out]))
          rw [Hf.out]
          refine bodyPost_ret (by simp [results, Try.results68, go_sem]) rfl ⟨rfl, ?_⟩
          repeat' (first | with_reducible apply Below.setCell | with_reducible apply Below.alloc | with_reducible exact Below.refl _ _)
          all_goals (simp; try omega)
    · by_cases h2 : b[0].toNat = 2
      · have hgi := Lib.hid (getVal_text hb1 h2)
        rw [h2] at hc0
        clear h1 h2 hx
        have hcA := fun o => cell_later (below_alloc w o) hc0
        cases hg : getText (b.drop 1) with
        | none =>
          have Hf := Lib.hid (getValV_no (b := b) (by rw [hgi.out, hg]))
          have HG := Lib.hid hg
          clear hg hgi
          go_enter Try.func68, Try.ntmps68
          go_wp2_with (first | (go_at_call 86; refine (getText_no (HR.out.later (below_alloc_then (below_alloc _ _))) (by simp) HG.out).mono ?_; rintro e w1 ⟨rfl, rfl⟩))
          rw [Hf.out]
          refine bodyPost_ret (by simp [results, Try.results68, go_sem]) rfl ⟨rfl, ?_⟩
          repeat' (first | with_reducible apply Below.setCell | with_reducible apply Below.alloc | with_reducible exact Below.refl _ _)
          all_goals (simp; try omega)
        | some p =>
          obtain ⟨s, kk⟩ := p
          have hle := getText_le hg
          have hln : (b.drop 1).length = b.length - 1 := by simp
          cases hr : rightV ⟨2, 0, ⟨s.toArray⟩⟩
          · have Hf := Lib.hid (getValV_no (b := b) (by rw [hgi.out, hg]; simp [hr]))
            have HG := Lib.hid hg
            have HRR := Lib.hid hr
            clear hg hr hgi
            go_enter Try.func68, Try.ntmps68
            go_wp2_with (first | (go_at_call 86; refine (getText_yes (HR.out.later (below_alloc_then (below_alloc _ _))) (by simp) HG.out).mono ?_; rintro e w1 ⟨rfl, rfl⟩) | (go_at_call 87; refine (rightV_ex _ _ _ _).mono ?_; rintro e w1 ⟨rfl, rfl⟩; rw [HRR.out]))
            rw [Hf.out]
            refine bodyPost_ret (by simp [results, Try.results68, go_sem]) rfl ⟨rfl, ?_⟩
            repeat' (first | with_reducible apply Below.setCell | with_reducible apply Below.alloc | with_reducible exact Below.refl _ _)
            all_goals (simp; try omega)
          · have Hf := Lib.hid (getValV_yes1 (b := b) (k := kk) (v := ⟨2, 0, ⟨s.toArray⟩⟩) (by rw [hgi.out, hg]; simp [hr]))
            have HG := Lib.hid hg
            have HRR := Lib.hid hr
            clear hg hr hgi
            go_enter Try.func68, Try.ntmps68
            go_wp2_with (first | (go_at_call 86; refine (getText_yes (HR.out.later (below_alloc_then (below_alloc _ _))) (by simp) HG.out).mono ?_; rintro e w1 ⟨rfl, rfl⟩) | (go_at_call 87; refine (rightV_ex _ _ _ _).mono ?_; rintro e w1 ⟨rfl, rfl⟩; rw [HRR.out]))
            rw [Hf.out]
            refine bodyPost_ret (by simp [results, Try.results68, go_sem]) rfl ⟨rfl, ?_⟩
            repeat' (first | with_reducible apply Below.setCell | with_reducible apply Below.alloc | with_reducible exact Below.refl _ _)
            all_goals (simp; try omega)
      · have hgi := Lib.hid (getVal_other hb1 h1 h2)
        have hcA := fun o => cell_later (below_alloc w o) hc0
        by_cases h0 : b[0].toNat = 0
        · have Hf := Lib.hid (getValV_yes1 (b := b) (k := 0) (v := ⟨0, 0, ⟨#[]⟩⟩) (by rw [hgi.out, if_pos h0]))
          have HRR : Hid (rightV ⟨0, 0, ⟨#[]⟩⟩ = true) := by show rightV ⟨0, 0, ⟨#[]⟩⟩ = true; simp [rightV, ByteArray.toList_eq]
          rw [h0] at hc0 hcA
          clear hgi h0 h1 h2 hx
          go_enter Try.func68, Try.ntmps68
          go_wp2_with (first | (go_at_call 87; refine (rightV_ex _ _ _ _).mono ?_; rintro e w1 ⟨rfl, rfl⟩; rw [HRR.out]))
          rw [Hf.out]
          refine bodyPost_ret (by simp [results, Try.results68, go_sem]) rfl ⟨rfl, ?_⟩
          repeat' (first | with_reducible apply Below.setCell | with_reducible apply Below.alloc | with_reducible exact Below.refl _ _)
          all_goals (simp; try omega)
        · have Hf := Lib.hid (getValV_no (b := b) (by rw [hgi.out, if_neg h0]))
          obtain ⟨X, hX⟩ : ∃ X : Nat, b[0].toNat = X := ⟨_, rfl⟩
          rw [hX] at hc0 hcA h0 h1 h2 hx
          have HRR : Hid (rightV ⟨(X : Int), 0, ⟨#[]⟩⟩ = false) := rightV_bad (by omega) (by omega) (by omega) _
          have t1 : ((X : Int) == 1) = false := by rw [beq_eq_false_iff_ne]; omega
          have t2 : ((X : Int) == 2) = false := by rw [beq_eq_false_iff_ne]; omega
          clear hgi hX h0 h1 h2
          go_enter Try.func68, Try.ntmps68
          go_wp2_with (first | (go_at_call 87; refine (rightV_ex _ _ _ _).mono ?_; rintro e w1 ⟨rfl, rfl⟩; rw [HRR.out]))
          rw [Hf.out]
          refine bodyPost_ret (by simp [results, Try.results68, go_sem]) rfl ⟨rfl, ?_⟩
          repeat' (first | with_reducible apply Below.setCell | with_reducible apply Below.alloc | with_reducible exact Below.refl _ _)
          all_goals (simp; try omega)

set_option maxRecDepth 100000 in
set_option maxHeartbeats 2000000 in
theorem refGetVal_any (v : Value) (b : List UInt8) (w : World) (h : Rd w v b.length (b.map bc)) :
    Calls Try.prog 72 #[v] w fun e w' => e = .returned (getValV b) ∧ Below w.heap.size w w' := by
  obtain ⟨ao, c, rfl, hna, hma, _, _⟩ := id h
  unfold maxLen at hma
  have HA := Lib.hid h
  clear h
  by_cases hb0 : b.length = 0
  · have Hf : Hid (getValV b = .tuple #[.agg #[.int .i64 0, .int .i64 0, .string ⟨#[]⟩], .int .i64 0, .int .i64 3]) := getValV_no (by rw [List.length_eq_zero_iff.1 hb0]; rfl)
    have hE : ((b.length : Int) == 0) = true := by simp [hb0]
    clear hb0
    go_enter Try.func72, Try.ntmps72
    go_wp2_with (first | fail)
    rw [Hf.out]
    refine bodyPost_ret (by simp [results, Try.results72, go_sem]) rfl ⟨rfl, ?_⟩
    repeat' (first | with_reducible apply Below.setCell | with_reducible apply Below.alloc | with_reducible exact Below.refl _ _)
    all_goals (simp; try omega)
  · have hE : ((b.length : Int) == 0) = false := by rw [beq_eq_false_iff_ne]; omega
    have hb1 : 0 < b.length := by omega
    obtain ⟨A, a1, c1, hi, hc0, hs, HR⟩ := rd_head HA.out rfl hb1
    have hx := b[0].toNat_lt
    clear hb0
    by_cases h1 : b[0].toNat = 1
    · have hgi := Lib.hid (getVal_int hb1 h1)
      rw [h1] at hc0
      clear h1 hx
      have hcA := fun o => cell_later (below_alloc w o) hc0
      cases hg : get (b.drop 1) with
      | none =>
        have Hf := Lib.hid (getValV_no (b := b) (by rw [hgi.out, hg]))
        have HG := Lib.hid hg
        have HRR : Hid (rightV ⟨1, 0, ⟨#[]⟩⟩ = true) := by show rightV ⟨1, 0, ⟨#[]⟩⟩ = true; simp [rightV, ByteArray.toList_eq]
        clear hg hgi
        go_enter Try.func72, Try.ntmps72
        go_wp2_with (first | (go_at_call 70; refine (refGet_no (HR.out.later (below_alloc_then (below_alloc _ _))) (by simp) HG.out).mono ?_; rintro e w1 ⟨rfl, hb1⟩; obtain ⟨⟨c0, c1, c2⟩, ⟨d0, d1, d2⟩, fc, fd, hsz, hsz1⟩ := two_later hb1; have fc0 := fc 0; have fc1 := fc 1; have fc2 := fc 2; have fd1 := fd 1; have fd2 := fd 2; have HBW := Lib.hid (below_alloc_then (below_alloc_then hb1)); clear hb1 fc fd) | (go_at_call 57; refine (refRightV_ex _ _ _ _).mono ?_; rintro e w1 ⟨rfl, rfl⟩; rw [HRR.out]))
        rw [Hf.out]
        refine bodyPost_ret (by simp [results, Try.results72, go_sem, c0, c1, c2, hsz]) rfl ⟨rfl, ?_⟩
        repeat' (first | with_reducible apply Below.setCell | with_reducible apply Below.alloc | with_reducible exact HBW.out)
        all_goals (simp; try omega)
      | some p =>
        obtain ⟨n, kk⟩ := p
        have hle := get_le hg
        have hbd := get_some hg
        have hn0 := hbd.1
        have hn1 := hbd.2.1
        have hln : (b.drop 1).length = b.length - 1 := by simp
        clear hbd
        cases hr : rightV ⟨1, n, ⟨#[]⟩⟩
        · have Hf := Lib.hid (getValV_no (b := b) (by rw [hgi.out, hg]; simp [hr]))
          have HG := Lib.hid hg
          have HRR := Lib.hid hr
          clear hg hr hgi
          go_enter Try.func72, Try.ntmps72
          go_wp2_with (first | (go_at_call 70; refine (refGet_yes (HR.out.later (below_alloc_then (below_alloc _ _))) (by simp) HG.out).mono ?_; rintro e w1 ⟨rfl, hb1⟩; obtain ⟨⟨c0, c1, c2⟩, ⟨d0, d1, d2⟩, fc, fd, hsz, hsz1⟩ := two_later hb1; have fc0 := fc 0; have fc1 := fc 1; have fc2 := fc 2; have fd1 := fd 1; have fd2 := fd 2; have HBW := Lib.hid (below_alloc_then (below_alloc_then hb1)); clear hb1 fc fd) | (go_at_call 57; refine (refRightV_ex _ _ _ _).mono ?_; rintro e w1 ⟨rfl, rfl⟩; rw [HRR.out]))
          rw [Hf.out]
          refine bodyPost_ret (by simp [results, Try.results72, go_sem, c0, c1, c2, hsz]) rfl ⟨rfl, ?_⟩
          repeat' (first | with_reducible apply Below.setCell | with_reducible apply Below.alloc | with_reducible exact HBW.out)
          all_goals (simp; try omega)
        · have Hf := Lib.hid (getValV_yes2 (b := b) (k := kk) (v := ⟨1, n, ⟨#[]⟩⟩) (by rw [hgi.out, hg]; simp [hr]))
          have HG := Lib.hid hg
          have HRR := Lib.hid hr
          clear hg hr hgi
          go_enter Try.func72, Try.ntmps72
          go_wp2_with (first | (go_at_call 70; refine (refGet_yes (HR.out.later (below_alloc_then (below_alloc _ _))) (by simp) HG.out).mono ?_; rintro e w1 ⟨rfl, hb1⟩; obtain ⟨⟨c0, c1, c2⟩, ⟨d0, d1, d2⟩, fc, fd, hsz, hsz1⟩ := two_later hb1; have fc0 := fc 0; have fc1 := fc 1; have fc2 := fc 2; have fd1 := fd 1; have fd2 := fd 2; have HBW := Lib.hid (below_alloc_then (below_alloc_then hb1)); clear hb1 fc fd) | (go_at_call 57; refine (refRightV_ex _ _ _ _).mono ?_; rintro e w1 ⟨rfl, rfl⟩; rw [HRR.out]))
          rw [Hf.out]
          refine bodyPost_ret (by simp [results, Try.results72, go_sem, c0, c1, c2, hsz]) rfl ⟨rfl, ?_⟩
          repeat' (first | with_reducible apply Below.setCell | with_reducible apply Below.alloc | with_reducible exact HBW.out)
          all_goals (simp; try omega)
    · by_cases h2 : b[0].toNat = 2
      · have hgi := Lib.hid (getVal_text hb1 h2)
        rw [h2] at hc0
        clear h1 h2 hx
        have hcA := fun o => cell_later (below_alloc w o) hc0
        cases hg : getText (b.drop 1) with
        | none =>
          have Hf := Lib.hid (getValV_no (b := b) (by rw [hgi.out, hg]))
          have HG := Lib.hid hg
          have HRR : Hid (rightV ⟨2, 0, ⟨#[]⟩⟩ = true) := by show rightV ⟨2, 0, ⟨#[]⟩⟩ = true; decide
          clear hg hgi
          go_enter Try.func72, Try.ntmps72
          go_wp2_with (first | (go_at_call 88; refine (refGetText_no (HR.out.later (below_alloc_then (below_alloc _ _))) (by simp) HG.out).mono ?_; rintro e w1 ⟨rfl, hb1⟩; obtain ⟨⟨c0, c1, c2⟩, ⟨d0, d1, d2⟩, fc, fd, hsz, hsz1⟩ := two_later hb1; have fc0 := fc 0; have fc1 := fc 1; have fc2 := fc 2; have fd1 := fd 1; have fd2 := fd 2; have HBW := Lib.hid (below_alloc_then (below_alloc_then hb1)); clear hb1 fc fd) | (go_at_call 57; refine (refRightV_ex _ _ _ _).mono ?_; rintro e w1 ⟨rfl, rfl⟩; rw [HRR.out]))
          rw [Hf.out]
          refine bodyPost_ret (by simp [results, Try.results72, go_sem, c0, c1, c2, hsz]) rfl ⟨rfl, ?_⟩
          repeat' (first | with_reducible apply Below.setCell | with_reducible apply Below.alloc | with_reducible exact HBW.out)
          all_goals (simp; try omega)
        | some p =>
          obtain ⟨s, kk⟩ := p
          have hle := getText_le hg
          have hln : (b.drop 1).length = b.length - 1 := by simp
          cases hr : rightV ⟨2, 0, ⟨s.toArray⟩⟩
          · have Hf := Lib.hid (getValV_no (b := b) (by rw [hgi.out, hg]; simp [hr]))
            have HG := Lib.hid hg
            have HRR := Lib.hid hr
            clear hg hr hgi
            go_enter Try.func72, Try.ntmps72
            go_wp2_with (first | (go_at_call 88; refine (refGetText_yes (HR.out.later (below_alloc_then (below_alloc _ _))) (by simp) HG.out).mono ?_; rintro e w1 ⟨rfl, hb1⟩; obtain ⟨⟨c0, c1, c2⟩, ⟨d0, d1, d2⟩, fc, fd, hsz, hsz1⟩ := two_later hb1; have fc0 := fc 0; have fc1 := fc 1; have fc2 := fc 2; have fd1 := fd 1; have fd2 := fd 2; have HBW := Lib.hid (below_alloc_then (below_alloc_then hb1)); clear hb1 fc fd) | (go_at_call 57; refine (refRightV_ex _ _ _ _).mono ?_; rintro e w1 ⟨rfl, rfl⟩; rw [HRR.out]))
            rw [Hf.out]
            refine bodyPost_ret (by simp [results, Try.results72, go_sem, c0, c1, c2, hsz]) rfl ⟨rfl, ?_⟩
            repeat' (first | with_reducible apply Below.setCell | with_reducible apply Below.alloc | with_reducible exact HBW.out)
            all_goals (simp; try omega)
          · have Hf := Lib.hid (getValV_yes2 (b := b) (k := kk) (v := ⟨2, 0, ⟨s.toArray⟩⟩) (by rw [hgi.out, hg]; simp [hr]))
            have HG := Lib.hid hg
            have HRR := Lib.hid hr
            clear hg hr hgi
            go_enter Try.func72, Try.ntmps72
            go_wp2_with (first | (go_at_call 88; refine (refGetText_yes (HR.out.later (below_alloc_then (below_alloc _ _))) (by simp) HG.out).mono ?_; rintro e w1 ⟨rfl, hb1⟩; obtain ⟨⟨c0, c1, c2⟩, ⟨d0, d1, d2⟩, fc, fd, hsz, hsz1⟩ := two_later hb1; have fc0 := fc 0; have fc1 := fc 1; have fc2 := fc 2; have fd1 := fd 1; have fd2 := fd 2; have HBW := Lib.hid (below_alloc_then (below_alloc_then hb1)); clear hb1 fc fd) | (go_at_call 57; refine (refRightV_ex _ _ _ _).mono ?_; rintro e w1 ⟨rfl, rfl⟩; rw [HRR.out]))
            rw [Hf.out]
            refine bodyPost_ret (by simp [results, Try.results72, go_sem, c0, c1, c2, hsz]) rfl ⟨rfl, ?_⟩
            repeat' (first | with_reducible apply Below.setCell | with_reducible apply Below.alloc | with_reducible exact HBW.out)
            all_goals (simp; try omega)
      · have hgi := Lib.hid (getVal_other hb1 h1 h2)
        have hcA := fun o => cell_later (below_alloc w o) hc0
        by_cases h0 : b[0].toNat = 0
        · have Hf := Lib.hid (getValV_yes2 (b := b) (k := 0) (v := ⟨0, 0, ⟨#[]⟩⟩) (by rw [hgi.out, if_pos h0]))
          have HRR : Hid (rightV ⟨0, 0, ⟨#[]⟩⟩ = true) := by show rightV ⟨0, 0, ⟨#[]⟩⟩ = true; simp [rightV, ByteArray.toList_eq]
          rw [h0] at hc0 hcA
          clear hgi h0 h1 h2 hx
          go_enter Try.func72, Try.ntmps72
          go_wp2_with (first | (go_at_call 57; refine (refRightV_ex _ _ _ _).mono ?_; rintro e w1 ⟨rfl, rfl⟩; rw [HRR.out]))
          rw [Hf.out]
          refine bodyPost_ret (by simp [results, Try.results72, go_sem]) rfl ⟨rfl, ?_⟩
          repeat' (first | with_reducible apply Below.setCell | with_reducible apply Below.alloc | with_reducible exact Below.refl _ _)
          all_goals (simp; try omega)
        · have Hf := Lib.hid (getValV_no (b := b) (by rw [hgi.out, if_neg h0]))
          obtain ⟨X, hX⟩ : ∃ X : Nat, b[0].toNat = X := ⟨_, rfl⟩
          rw [hX] at hc0 hcA h0 h1 h2 hx
          have HRR : Hid (rightV ⟨(X : Int), 0, ⟨#[]⟩⟩ = false) := rightV_bad (by omega) (by omega) (by omega) _
          have t1 : ((X : Int) == 1) = false := by rw [beq_eq_false_iff_ne]; omega
          have t2 : ((X : Int) == 2) = false := by rw [beq_eq_false_iff_ne]; omega
          clear hgi hX h0 h1 h2
          go_enter Try.func72, Try.ntmps72
          go_wp2_with (first | (go_at_call 57; refine (refRightV_ex _ _ _ _).mono ?_; rintro e w1 ⟨rfl, rfl⟩; rw [HRR.out]))
          rw [Hf.out]
          refine bodyPost_ret (by simp [results, Try.results72, go_sem]) rfl ⟨rfl, ?_⟩
          repeat' (first | with_reducible apply Below.setCell | with_reducible apply Below.alloc | with_reducible exact Below.refl _ _)
          all_goals (simp; try omega)

end Go.Proofs.Ytliokkoalkhpaaa
