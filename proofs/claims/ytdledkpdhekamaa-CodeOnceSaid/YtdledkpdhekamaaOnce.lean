/-
  The law CodeOnce: the call returns true for all bytes. No condition.
-/
import Derived.Test.YtdledkpdhekamaaC1A
import Derived.Test.YtdledkpdhekamaaLaw
namespace Go.Proofs.Ytdledkpdhekamaa.codeOnce
open Go.ChangeShapes Go.WideShapes Go.ChangeAt Go.RowKit Go.Proofs.Ytdledkpdhekamaa
open Go.ChangeMaps (open_string shut_string)

set_option maxRecDepth 100000 in
set_option maxHeartbeats 1000000 in
theorem walk (v : Value) (l : List UInt8) (w : World) (hr : Rd w v l.length (l.map bc)) :
    Calls Try.prog 6 #[v] w fun e w' => e = .returned (.bool true) ∧ Below w.heap.size w w' := by
  obtain ⟨ao, c, rfl, hna, hma, _, _⟩ := id hr
  unfold maxLen at hma
  have HR := Lib.hid hr
  clear hr
  by_cases hbig : 1000 < l.length
  · go_enter Try.func6, Try.ntmps6
    go_wp2_with fail
    refine (alive_any _).mono ?_
    rintro e w1 ⟨rfl, hb1⟩
    go_wp2_with fail
    go_ret
    exact ⟨rfl, hb1⟩
  · cases hg : get l with
    | none =>
      have HG := Lib.hid hg
      clear hg
      go_enter Try.func6, Try.ntmps6
      go_wp2_with fail
      refine (get_no HR.out rfl HG.out).mono ?_
      rintro e w0 ⟨rfl, rfl⟩
      go_wp2_with fail
      refine (alive_any _).mono ?_
      rintro e w1 ⟨rfl, hb1⟩
      go_wp2_with fail
      go_ret
      exact ⟨rfl, hb1⟩
    | some p =>
      obtain ⟨n, k⟩ := p
      have hl := get_le hg
      obtain ⟨hn0, hn1, hput, hkl⟩ := get_some hg
      have HG := Lib.hid hg
      have Htake : Hid (put n = l.take k) := by
        unfold Hid
        conv => rhs; rw [hput]
        rw [hkl]
        simp
      have Hshort : Hid (∀ j, j < k → get (l.take j) = none) := fun j hj => by
        have := get_short n hn0 hn1 j (by omega) (l.drop k)
        rwa [← hput] at this
      have d1 : decide ((k : Int) < 1) = false := by simp; omega
      have d2 : decide ((l.length : Int) < (k : Int)) = false := by simp; omega
      have d3 : decide (l.length < k) = false := by simp; omega
      have d4 : decide (k < 1) = false := by simp; omega
      obtain ⟨a2, c2, hsl, hrd⟩ := run_part_hi elB HR.out (by simp) k hl.2.2
      rw [Nat.mul_one, ← List.map_take] at hrd
      have hlk : k = (l.take k).length := by simp; omega
      have Hrd := Lib.hid hrd
      have Hlk := Lib.hid hlk
      clear hg hput hkl hrd hlk
      go_enter Try.func6, Try.ntmps6
      go_wp2_with fail
      refine (get_yes HR.out rfl HG.out).mono ?_
      rintro e w0 ⟨rfl, rfl⟩
      go_wp2_with fail
      go_region_held3 (fun w' => Below w.heap.size w w') (first | exact (Below.refl _ _).drew | exact below_then (by assumption) (by assumption))
        (first
        | (go_at_call 13; refine (put_any _ _ hn0 hn1).mono ?_; rintro e w1 ⟨v1, rfl, hown1, hb1⟩)
        | (go_at_call 12; refine (same_true (Rd.of_own (by assumption)) rfl (Hrd.out.later (by assumption)) Hlk.out Htake.out).mono ?_; rintro e w2 ⟨rfl, hb2⟩))
      have hb := below_then (below_of_drew hb1) hb2
      clear hown1 hsl d1 d2 d3 d4
      go_wp2_with fail
      go_loopw [49] (fun i wr => ∃ j : Nat, j ≤ k ∧ i = .int .i64 j ∧ Below w.heap.size w wr) (fun i _ => k - (intOf i).toNat)
      case atStart => exact ⟨0, Nat.zero_le _, rfl, hb⟩
      case round =>
        obtain ⟨j, hj, rfl, hbr⟩ := hrel
        by_cases hlt : j < k
        · obtain ⟨a3, c3, hsl3, hrd3⟩ := run_part_hi elB (HR.out.later hbr) (by simp) j (by omega)
          rw [Nat.mul_one, ← List.map_take] at hrd3
          have Hrd3 := Lib.hid hrd3
          have hlj : j = (l.take j).length := by simp; omega
          have Hlj := Lib.hid hlj
          clear hrd3 hlj
          go_wp2_with fail
          refine (get_no Hrd3.out Hlj.out (Hshort.out j hlt)).mono ?_
          rintro e w3 ⟨rfl, rfl⟩
          go_wp2_with fail
          go_roundw
          case rel => exact ⟨j + 1, by omega, by go_num, hbr⟩
          case measure => simp [intOf]; omega
        · go_wp2_with fail
          refine (alive_any _).mono ?_
          rintro e w1 ⟨rfl, hb1⟩
          go_wp2_with fail
          go_ret
          exact ⟨rfl, below_then hbr hb1⟩

set_option maxRecDepth 100000 in
theorem lifted (os : Os) (started : os.Started) (H : Type) (enc : TypeId × Value → H) :
    ReturnsInHanded {} Try.checked os 6 .any (Rows.codeOnceSpec.pre6 enc Try.prog Try.f6 Rows.codeOnceRow.domain false) (Rows.codeOnceSpec.post enc Try.prog Try.f6 false true false false) := by
  refine returnsInHanded_of_change_sized (C := Try.checked) ownKnob_none started (by kernel_rfl) Try.func6
    (ChangeSpec.witness6 (enc := enc) (C := Try.checked) false ⟨#[], #[.slice none 0 0], []⟩ 8 (by kernel_rfl) (by kernel_rfl) (by kernel_rfl) (by kernel_rfl)) ?_
  intro W base args ds gs before hval0 hW hcnd hsz0 _
  have hval : ∀ (j : Nat) t v, Try.f6.params[j]? = some t → args[j]? = some v → Value.okWide Try.prog W .any base t v := hval0
  have hW' := hW
  obtain ⟨p, q, hA0, hV, rfl, hfz, hnd⟩ := hW
  have hA : DataW.TrodAll enc Try.prog W 0 (fun _ => true) true Try.f6.params.toList args.toList ds p := hA0
  have hsz : (DataW.weightsEach Try.prog (Try.f6.params.toList ++ Rows.codeOnceSpec.plain.varTypes Try.prog) (ds ++ gs)).all (· ≤ reachBytes) = true := hsz0
  rw [Try.params6] at hA hval hsz
  obtain ⟨v0, vs0, d0, ds0, p0, q0, hargs, rfl, rfl, h0, r0r⟩ := trodAll_cons hA
  obtain ⟨rfl, rfl, rfl⟩ := trodAll_nil r0r
  obtain rfl : args = #[v0] := by cases args; simp_all
  obtain ⟨rfl, rfl⟩ := trodVars_none hV
  have g0 := sized_at hsz (j := 0) rfl rfl
  obtain ⟨l0, r0⟩ := open_bytes Try.underlying24 Try.underlying5 cellsU8 (hval 0 24 v0 rfl rfl) h0
  refine (walk v0 l0 W r0).mono fun e W' ⟨he, hg⟩ => ⟨_, he, law_post laidOut (by kernel_rfl) rfl Try.underlying4 rfl rfl hW' hg⟩

theorem over : Rows.codeOnceRow.holds Try.pinned (OpenSpec.ofChange Rows.codeOnceSpec) :=
  OpenClaim.holds_of_wide 6 Try.f6 rfl rfl rfl rfl rfl rfl rfl ⟨rfl, rfl, rfl, rfl, rfl⟩ rfl rfl rfl rfl rfl (by kernel_rfl) Try.func6 (by kernel_rfl)
    (of_decide_eq_true (by kernel_rfl)) (by unfold Func.isWrapper; first | (rw [if_pos (by decide +kernel)]; kernel_rfl) | (rw [if_neg (by decide +kernel)]; exact ⟨rfl, rfl⟩))
    (fun os started H enc _ => lifted os started H enc)

/-- THE STATEMENT. -/
theorem proved : Rows.CodeOnceSaid :=
  over
#print axioms proved
end Go.Proofs.Ytdledkpdhekamaa.codeOnce
