/-
  Layers 7 and 9: parts in memory; those of a row of which something holds. (printed by tools/gen_mk.py)
-/
import Derived.Test.YtnpciogpegmejaaIP
import Derived.Test.YtnpciogpegmejaaMA
namespace Go.Proofs.Ytnpciogpegmejaa
open Go.RowKit Go.Sort Go.BigFrame

def prtCs (l : List Prt) : List Value := l.flatMap enP
theorem prtCs_length (l : List Prt) : (prtCs l).length = l.length * 11 := by
  induction l with
  | nil => rfl
  | cons a l ih =>
    have : prtCs (a :: l) = enP a ++ prtCs l := rfl
    rw [this, List.length_append, ih, List.length_cons]
    simp [enP]; omega
theorem prtCs_app (l m : List Prt) : prtCs (l ++ m) = prtCs l ++ prtCs m := by simp [prtCs]
theorem prtCs_take (l : List Prt) (i : Nat) : (prtCs l).take (i * 11) = prtCs (l.take i) := by
  induction l generalizing i with
  | nil => simp [prtCs]
  | cons a l ih =>
    have he : prtCs (a :: l) = enP a ++ prtCs l := rfl
    have hc : (enP a).length = 11 := rfl
    cases i with
    | zero => rfl
    | succ i =>
      rw [he, List.take_append, List.take_of_length_le (by omega), show (i + 1) * 11 - (enP a).length = i * 11 by omega, ih i]
      rfl
theorem prtCs_drop (l : List Prt) (i : Nat) : (prtCs l).drop (i * 11) = prtCs (l.drop i) := by
  induction l generalizing i with
  | nil => simp [prtCs]
  | cons a l ih =>
    have he : prtCs (a :: l) = enP a ++ prtCs l := rfl
    have hc : (enP a).length = 11 := rfl
    cases i with
    | zero => rfl
    | succ i =>
      rw [he, List.drop_append, List.drop_of_length_le (by omega), show (i + 1) * 11 - (enP a).length = i * 11 by omega, ih i]
      rfl
theorem oneP (l : List Prt) : ∀ u ∈ prtCs l, u.oneCell' = true := by
  intro u hu
  obtain ⟨x, _, hx⟩ := List.mem_flatMap.1 hu
  simp only [enP, List.mem_cons, List.not_mem_nil, or_false] at hx
  rcases hx with rfl | rfl | rfl | rfl | rfl | rfl | rfl | rfl | rfl | rfl | rfl <;> rfl
theorem prtCs_at (l : List Prt) (k : Nat) (hk : k < l.length) (j : Nat) (hj : j < 11) : (prtCs l)[k * 11 + j]? = (enP l[k])[j]? := by
  induction l generalizing k with
  | nil => cases hk
  | cons a l ih =>
    have he : prtCs (a :: l) = enP a ++ prtCs l := rfl
    have hc : (enP a).length = 11 := rfl
    cases k with
    | zero =>
      rw [he, List.getElem?_append_left (by omega)]
      simp
    | succ k =>
      have := ih k (by simpa using hk)
      rw [he, List.getElem?_append_right (by omega), show (k + 1) * 11 + j - (enP a).length = k * 11 + j by omega]
      exact this

/-- The place of a part in a slice. -/
theorem rd_prt {w : World} {ao : Option Addr} {n c : Nat} {l : List Prt} (h : Rd w (.slice ao n c) n (prtCs l)) (hl : n = l.length) (k : Nat) (hk : k < l.length) {x : Prt} (hx : l[k] = x) :
    ∃ b o : Nat, (∀ W, (Instr.indexAt 24 (.slice ao n c) (.int .i64 (k : Int))).run Try.prog W = .ok (.pointer (some ⟨b, o, none⟩)) W) ∧ w.cell? ⟨b, o, none⟩ = some (.int .i64 x.v.k) ∧ w.cell? ⟨b, o + 1, none⟩ = some (.int .i64 x.v.n) ∧ w.cell? ⟨b, o + 2, none⟩ = some (.string x.v.s) ∧ w.cell? ⟨b, o + 3, none⟩ = some (.int .i64 x.d.dev) ∧ w.cell? ⟨b, o + 4, none⟩ = some (.int .i64 x.d.seq) ∧ w.cell? ⟨b, o + 5, none⟩ = some (.int .i64 x.at_) ∧ w.cell? ⟨b, o + 6, none⟩ = some (.int .i64 x.tm) ∧ w.cell? ⟨b, o + 7, none⟩ = some (.int .i64 x.aft.dev) ∧ w.cell? ⟨b, o + 8, none⟩ = some (.int .i64 x.aft.seq) ∧ w.cell? ⟨b, o + 9, none⟩ = some (.int .i64 x.aat) ∧ w.cell? ⟨b, o + 10, none⟩ = some (.bool x.gone) ∧ b < w.heap.size := by
  subst hl
  subst hx
  obtain ⟨A, hA, _, hlt, hc⟩ := h.elem 11 k hk (prtCs_length l) (by decide)
  obtain ⟨b, o, s⟩ := A
  have hs : s = none := by
    obtain ⟨u, _, hu⟩ := hc 0 (by decide)
    have := World.cell?_spot hu
    simpa [Addr.add] using this
  subst hs
  have key : ∀ j, j < 11 → ∀ u, (enP l[k])[j]? = some u → w.cell? ⟨b, o + j, none⟩ = some u := by
    intro j hj u hu
    obtain ⟨u', h1, h2⟩ := hc j hj
    rw [prtCs_at l k hk j hj, hu] at h1
    cases h1
    rw [Addr.add_lit] at h2
    exact h2
  exact ⟨b, o, fun W => run_indexAt_at elP hA hk W, key 0 (by decide) _ rfl, key 1 (by decide) _ rfl, key 2 (by decide) _ rfl, key 3 (by decide) _ rfl, key 4 (by decide) _ rfl, key 5 (by decide) _ rfl, key 6 (by decide) _ rfl, key 7 (by decide) _ rfl, key 8 (by decide) _ rfl, key 9 (by decide) _ rfl, key 10 (by decide) _ rfl, hlt⟩

abbrev OwnP (w : World) (B : Nat) (v : Value) (l : List Prt) : Prop := w.ownsRow B 43 11 v l.length (prtCs l)
abbrev PRd (w : World) (v : Value) (l : List Prt) : Prop := Rd w v l.length (prtCs l)

theorem own_snocP {w : World} {B : Nat} {v : Value} {O : List Prt} {x : Prt} (h : w.ownsRow B 43 11 v (O.length + 1) (prtCs O ++ enP x)) : OwnP w B v (O ++ [x]) := by
  unfold OwnP
  rw [prtCs_app, List.length_append]
  exact h

theorem own_monoP {w : World} {B B' : Nat} {e : TypeId} {size : Nat} {v : Value} {n : Nat} {xs : List Value} (h : w.ownsRow B e size v n xs) (hB : B' ≤ B) : w.ownsRow B' e size v n xs := by
  refine ⟨h.1, ?_⟩
  rcases h.2 with h | ⟨g, cap, cur, rfl, h1, h2⟩
  · exact .inl h
  · exact .inr ⟨g, cap, cur, rfl, Nat.le_trans hB h1, h2⟩

/-- What is asked of a test: g, with what it has caught. -/
structure TestP (w0 : World) (g : Nat) (cb : Array Value) (p : Prt → Bool) : Prop where
  eg : ∀ args w, (callFunc g args).run Try.prog w = .ok (.enter g args) w
  call : ∀ (x : Prt) (W : World), Below w0.heap.size w0 W → Calls Try.prog g (#[x.agg] ++ cb) W fun e w' => e = .returned (.bool (p x)) ∧ Below W.heap.size W w'

def OwnPostP (w : World) (l : List Prt) (e : Ending) (w' : World) : Prop := ∃ v', e = .returned v' ∧ OwnP w' w.heap.size v' l ∧ Below w.heap.size w w'


def IdxPostP (w : World) (p : Prt → Bool) (l : List Prt) (e : Ending) (w' : World) : Prop :=
  ((e = .returned (.int .i64 (-1)) ∧ ∀ x ∈ l, p x = false) ∨ ∃ k : Nat, ∃ hk : k < l.length, e = .returned (.int .i64 k) ∧ p l[k] = true ∧ ∀ x ∈ l.take k, p x = false) ∧ Below w.heap.size w w'

set_option maxRecDepth 100000 in
set_option maxHeartbeats 1000000 in
theorem indexP_any {g : Nat} {cb : Array Value} {p : Prt → Bool} (v : Value) (l : List Prt) (w : World) (C : TestP w g cb p) (h : PRd w v l) (hn : l.length ≤ 1000000) :
    Calls Try.prog 64 #[v, .func (.func g) #[] cb] w (IdxPostP w p l) := by
  obtain ⟨ao, c, rfl, hnc, hcm, _, _⟩ := id h
  obtain ⟨n, hln⟩ : ∃ n, l.length = n := ⟨_, rfl⟩
  have HA := Lib.hid h
  have HLN := Lib.hid hln
  have heg := C.eg
  have HC := Lib.hid C.call
  rw [hln] at hn hnc ⊢
  unfold maxLen at hcm
  clear h hln C
  go_enter Try.func64, Try.ntmps64
  go_wp2
  go_loopw [8] (fun vi wr => ∃ k : Nat, k ≤ n ∧ vi = .int .i64 k ∧ Hid (∀ x ∈ l.take k, p x = false) ∧ Hid (Below w.heap.size w wr)) (fun vi _ => n - (intOf vi).toNat)
  case atStart => exact ⟨0, Nat.zero_le _, rfl, (fun x hx => by simp at hx), Below.refl _ _⟩
  case round =>
    obtain ⟨k, hk, rfl, hno, hbw⟩ := hrel
    rename World => wr
    by_cases hlt : k < n
    · have hkl : k < l.length := by have := HLN.out; omega
      obtain ⟨x, hx⟩ : ∃ x, l[k] = x := ⟨_, rfl⟩
      obtain ⟨b1, o1, x1, c0, c1, c2, c3, c4, c5, c6, c7, c8, c9, c10, _⟩ := rd_prt (HA.out.later hbw.out) rfl k hkl hx
      rw [HLN.out] at x1
      have hcall := HC.out x wr hbw.out
      have HX := Lib.hid hx
      clear hx
      cases hp : p x
      · have hno' : Hid (∀ x ∈ l.take (k + 1), p x = false) := by
          intro y hy
          rw [List.take_succ_eq_append_getElem hkl] at hy
          rcases List.mem_append.1 hy with hy | hy
          · exact hno.out y hy
          · rw [List.mem_singleton.1 hy, HX.out]; exact hp
        rw [hp] at hcall
        have HCL := Lib.hid hcall
        clear hcall hp
        go_wp2_with fail
        refine HCL.out.mono ?_
        rintro e w2 ⟨rfl, hb2⟩
        have HB2 := Lib.hid (below_then hbw.out hb2)
        clear hb2
        go_wp2_with fail
        go_roundw
        case rel => exact ⟨k + 1, by omega, by go_num, hno', HB2.out⟩
        case measure => simp [intOf]; omega
      · have HP := Lib.hid hp
        rw [hp] at hcall
        have HCL := Lib.hid hcall
        clear hcall hp
        go_wp2_with fail
        refine HCL.out.mono ?_
        rintro e w2 ⟨rfl, hb2⟩
        have HB2 := Lib.hid (below_then hbw.out hb2)
        clear hb2
        go_wp2_with fail
        go_ret
        exact ⟨.inr ⟨k, hkl, rfl, by rw [HX.out]; exact HP.out, hno.out⟩, HB2.out⟩
    · have hkn : k = n := by omega
      subst hkn
      have he : ∀ x ∈ l, p x = false := by
        have := hno.out
        rwa [List.take_of_length_le (by have := HLN.out; omega)] at this
      have HE := Lib.hid he
      clear he
      go_wp2_with fail
      go_ret
      exact ⟨.inl ⟨rfl, HE.out⟩, hbw.out⟩

set_option maxRecDepth 100000 in
set_option maxHeartbeats 1000000 in
theorem containsP_any {g : Nat} {cb : Array Value} {p : Prt → Bool} (v : Value) (l : List Prt) (w : World) (C : TestP w g cb p) (h : PRd w v l) (hn : l.length ≤ 1000000) :
    Calls Try.prog 45 #[v, .func (.func g) #[] cb] w fun e w' => e = .returned (.bool (l.any p)) ∧ Below w.heap.size w w' := by
  have HI := Lib.hid (indexP_any v l w C h hn)
  obtain ⟨ao, c, rfl, _⟩ := id h
  clear h C hn
  go_enter Try.func45, Try.ntmps45
  go_wp2_with fail
  refine HI.out.mono ?_
  rintro e w1 ⟨⟨rfl, hno⟩ | ⟨k, hk, rfl, hp, hno⟩, hb1⟩
  · have hf : l.any p = false := by rw [List.any_eq_false]; intro x hx; rw [hno x hx]; simp
    have HF := Lib.hid hf
    have HB := Lib.hid hb1
    clear hf hno hb1
    go_wp2_with fail
    go_ret
    exact ⟨ret_bool HF.out.symm, HB.out⟩
  · have hf : l.any p = true := List.any_eq_true.2 ⟨_, List.getElem_mem hk, hp⟩
    have HF := Lib.hid hf
    have HB := Lib.hid hb1
    have hge : decide ((0 : Int) ≤ (k : Int)) = true := decide_eq_true (by omega)
    clear hf hno hb1 hp hk
    go_wp2_with fail
    go_ret
    exact ⟨ret_bool HF.out.symm, HB.out⟩
end Go.Proofs.Ytnpciogpegmejaa
