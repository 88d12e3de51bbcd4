/-
  Layer 3 (row): few rows; numbers and texts.
-/
import Derived.Test.YtdfdgnnlpopkmaaS
namespace Go.Proofs.Ytdfdgnnlpopkmaa
open Go.RowKit Go.Sort Go.BigFrame

abbrev shortV (v : Val) : Bool := decide (v.s.size ≤ 400)
def fewR (l : List Val) : Bool := decide (l.length ≤ 60) && l.all shortV

set_option maxRecDepth 100000 in
set_option maxHeartbeats 800000 in
theorem few_any (vs : Value) (ps : List (Value × List Val)) (w : World) (h : Rd w vs ps.length (ps.map (·.1))) (hr : ∀ p ∈ ps, Rd w p.1 p.2.length (rowCs p.2)) :
    Calls Try.prog 10 #[vs] w fun e w' => e = .returned (.bool (ps.all fun p => fewR p.2)) ∧ Below w.heap.size w w' := by
  obtain ⟨ao, c, rfl, hna, hma, _, _⟩ := id h
  unfold maxLen at hma
  have HA := Lib.hid h
  have HR := Lib.hid (fun k (hk : k < ps.length) => hr ps[k] (List.getElem_mem hk))
  clear h hr
  go_enter Try.func10, Try.ntmps10
  go_wp2
  go_loopw [9] (fun i wr => ∃ j : Nat, j ≤ ps.length ∧ i = .int .i64 j ∧ Hid ((ps.take j).all (fun p => fewR p.2) = true) ∧ Below w.heap.size w wr) (fun i _ => ps.length - (intOf i).toNat)
  case atStart => exact ⟨0, Nat.zero_le _, rfl, rfl, Below.refl _ _⟩
  case round =>
    obtain ⟨j, hj, rfl, htj, hbw⟩ := hrel
    rename World => wr
    by_cases hlt : j < ps.length
    · obtain ⟨A, hi, c0, _⟩ := rd_one elRR (fun v : Value × List Val => v.1) (l := ps) (HA.out.later hbw) rfl j hlt
      have hx := HR.out j hlt
      have hup := Lib.hid (all_upto (fun p : Value × List Val => fewR p.2) hlt)
      have hstop := Lib.hid (fun h => all_stop (p := fun p : Value × List Val => fewR p.2) hlt h)
      rcases hp : ps[j] with ⟨vx, x⟩
      rw [hp] at hx c0 hup hstop
      dsimp only at hx c0 hup hstop
      clear hp
      obtain ⟨ax, cx, rfl, hnx, hmx, _, _⟩ := id hx
      unfold maxLen at hmx
      have HX := Lib.hid (hx.later hbw)
      clear hx
      by_cases h60 : x.length ≤ 60
      · have HF := Lib.hid (show fewR x = x.all shortV by unfold fewR; rw [decide_eq_true h60]; rfl)
        go_wp2_with fail
        go_loopw [18] (fun i wq => ∃ k : Nat, k ≤ x.length ∧ i = .int .i64 k ∧ Hid ((x.take k).all shortV = true) ∧ Below wr.heap.size wr wq) (fun i _ => x.length - (intOf i).toNat)
        case atStart => exact ⟨0, Nat.zero_le _, rfl, rfl, Below.refl _ _⟩
        case round =>
          obtain ⟨k, hk, rfl, htk, hbq⟩ := hrel
          rename World => wq
          by_cases hlk : k < x.length
          · obtain ⟨b1, o1, hi1, d0, d1, d2, _⟩ := rd_val (HX.out.later hbq) rfl k hlk
            have hup2 := Lib.hid (all_upto shortV hlk)
            have hstop2 := Lib.hid (fun h => all_stop (p := shortV) hlk h)
            by_cases hs : x[k].s.size ≤ 400
            · have HS : Hid (shortV x[k] = true) := decide_eq_true hs
              go_wp2_with fail
              go_roundw
              case rel => exact ⟨k + 1, by omega, by go_num, by show (x.take (k + 1)).all shortV = true; rw [hup2.out, htk.out, HS.out]; rfl, below_then hbq (below_alloc _ _)⟩
              case measure => simp [intOf]; omega
            · have HS : Hid (shortV x[k] = false) := decide_eq_false hs
              go_wp2_with fail
              go_ret
              exact ⟨ret_bool (hstop.out (by rw [HF.out]; exact hstop2.out HS.out)).symm, below_then hbw (below_then hbq (below_alloc _ _))⟩
          · have hke : k = x.length := by omega
            have HT : Hid (fewR x = true) := by have := htk.out; rw [hke, List.take_length] at this; show fewR x = true; rw [HF.out]; exact this
            clear htk hke
            have HBQ := Lib.hid (below_then hbw hbq)
            clear hbw hbq
            go_wp2_with fail
            go_roundw
            case rel => exact ⟨j + 1, by omega, by go_num, by show (ps.take (j + 1)).all _ = true; rw [hup.out, htj.out, HT.out]; rfl, HBQ.out⟩
            case measure => simp [intOf]; omega
      · have HF := Lib.hid (show fewR x = false by unfold fewR; rw [decide_eq_false h60]; rfl)
        go_wp2_with fail
        go_ret
        exact ⟨ret_bool (hstop.out HF.out).symm, hbw⟩
    · have hje : j = ps.length := by omega
      have HT : Hid ((ps.all fun p => fewR p.2) = true) := by have := htj.out; rwa [hje, List.take_length] at this
      clear htj hje
      go_wp2_with fail
      go_ret
      exact ⟨ret_bool HT.out.symm, hbw⟩

set_option maxRecDepth 100000 in
theorem num_any (n : Int) (w : World) :
    Calls Try.prog 26 #[.int .i64 n] w fun e w' => e = .returned (.agg #[.int .i64 1, .int .i64 n, .string ⟨#[]⟩]) ∧ Below w.heap.size w w' := by
  go_enter Try.func26, Try.ntmps26
  go_wp2
  refine bodyPost_ret (by simp [results, Try.results26, go_sem]) rfl ⟨rfl, ?_⟩
  repeat' (first | with_reducible apply Below.setCell | with_reducible apply Below.alloc | with_reducible exact Below.refl _ _)
  all_goals (simp; try omega)

set_option maxRecDepth 100000 in
theorem txt_any (s : ByteArray) (w : World) :
    Calls Try.prog 27 #[.string s] w fun e w' => e = .returned (.agg #[.int .i64 2, .int .i64 0, .string s]) ∧ Below w.heap.size w w' := by
  go_enter Try.func27, Try.ntmps27
  go_wp2
  refine bodyPost_ret (by simp [results, Try.results27, go_sem]) rfl ⟨rfl, ?_⟩
  repeat' (first | with_reducible apply Below.setCell | with_reducible apply Below.alloc | with_reducible exact Below.refl _ _)
  all_goals (simp; try omega)
end Go.Proofs.Ytdfdgnnlpopkmaa
