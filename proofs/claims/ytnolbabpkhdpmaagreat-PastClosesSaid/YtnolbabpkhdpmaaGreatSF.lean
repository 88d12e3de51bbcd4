/-
  The stable sort of numbers in place: block by block.
-/
import Derived.Test.YtnolbabpkhdpmaaGreatSE
namespace Go.Proofs.YtnolbabpkhdpmaaGreat
open Go.RowKit Go.Sort Go.BigFrame

/-- A stretch is in order. -/
def AscIn {α : Type} (lt : α → α → Bool) (l : List α) (i len : Nat) : Prop := Asc lt ((l.drop i).take len)

section
variable {α : Type} {lt : α → α → Bool}

theorem ascIn_left {P X R : List α} {i len : Nat} (h : i + len ≤ P.length) : AscIn lt (P ++ X ++ R) i len ↔ AscIn lt P i len := by
  unfold AscIn
  rw [List.append_assoc, List.drop_append_of_le_length (by omega), List.take_append_of_le_length (by rw [List.length_drop]; omega)]

theorem ascIn_right {P X X' R : List α} {i len : Nat} (h : P.length + X.length ≤ i) (hx : X'.length = X.length) : AscIn lt (P ++ X' ++ R) i len ↔ AscIn lt (P ++ X ++ R) i len := by
  unfold AscIn
  have e : ∀ Y : List α, Y.length = X.length → (P ++ Y ++ R).drop i = R.drop (i - (P.length + X.length)) := by
    intro Y hY
    rw [List.drop_append, List.drop_of_length_le (by rw [List.length_append]; omega), List.nil_append, List.length_append, hY]
  rw [e X' hx, e X rfl]

theorem ascIn_self {P X R : List α} (h : Asc lt X) : AscIn lt (P ++ X ++ R) P.length X.length := by
  unfold AscIn
  rw [List.append_assoc, List.drop_left, List.take_left]; exact h

theorem ascIn_more {l : List α} {i a b : Nat} (h : AscIn lt l i a) (ha : l.length ≤ i + a) : AscIn lt l i b := by
  unfold AscIn at h ⊢
  rw [List.take_of_length_le (by rw [List.length_drop]; omega)] at h
  exact List.Pairwise.sublist (List.take_sublist b _) h

theorem ascIn_out {l : List α} {i b : Nat} (h : l.length ≤ i) : AscIn lt l i b := by
  unfold AscIn
  rw [List.drop_of_length_le h, List.take_nil]; exact List.Pairwise.nil

/-- l, cut at i and j. -/
theorem cut3 (l : List α) (i j : Nat) (h1 : i ≤ j) : l = l.take i ++ (l.drop i).take (j - i) ++ l.drop j := by
  have e : l.drop j = (l.drop i).drop (j - i) := by rw [List.drop_drop]; congr 1; omega
  rw [e, List.append_assoc, List.take_append_drop, List.take_append_drop]

/-- What the sort's state is: alike, and of the same length. -/
structure St (l0 l : List α) : Prop where
  eqv : Eqv lt l0 l
  len : l.length = l0.length

/-- One stretch put in order: all else stays. -/
theorem st_step [Inhabited α] (h : SWO lt) {l0 l : List α} {i j : Nat} (hs : St (lt := lt) l0 l) (hij : i ≤ j) (hj : j ≤ l.length) :
    St (lt := lt) l0 (l.take i ++ isortL lt ((l.drop i).take (j - i)) ++ l.drop j) ∧
    AscIn lt (l.take i ++ isortL lt ((l.drop i).take (j - i)) ++ l.drop j) i (j - i) ∧
    (∀ a len, a + len ≤ i ∨ j ≤ a → AscIn lt l a len → AscIn lt (l.take i ++ isortL lt ((l.drop i).take (j - i)) ++ l.drop j) a len) := by
  have hX : ((l.drop i).take (j - i)).length = j - i := by rw [List.length_take, List.length_drop]; omega
  have hP : (l.take i).length = i := by rw [List.length_take]; omega
  refine ⟨⟨?_, ?_⟩, ?_, ?_⟩
  · have := hs.eqv
    rw [cut3 l i j hij] at this
    exact this.trans (Eqv.mid _ _ (Eqv.sorted h _))
  · rw [← hs.len]
    conv => rhs; rw [cut3 l i j hij]
    simp only [List.length_append, isortL_length]
  · have := ascIn_self (lt := lt) (P := l.take i) (R := l.drop j) (isortL_asc h ((l.drop i).take (j - i)))
    rw [hP, isortL_length, hX] at this
    exact this
  · intro a len hc ha
    rw [cut3 l i j hij] at ha
    rcases hc with hc | hc
    · rw [ascIn_left (by omega)] at ha ⊢
      exact ha
    · rw [ascIn_right (X := (l.drop i).take (j - i)) (by omega) (isortL_length _)]
      exact ha

/-- .. and two stretches, side by side, in order, as one. -/
theorem cut4 (l : List α) (i m j : Nat) (h1 : i ≤ m) (h2 : m ≤ j) : (l.drop i).take (j - i) = (l.drop i).take (m - i) ++ (l.drop m).take (j - m) := by
  have e : l.drop m = (l.drop i).drop (m - i) := by rw [List.drop_drop]; congr 1; omega
  rw [e, ← List.take_add]
  congr 1
  omega
end

theorem insertion_cut {w0 : World} {blk off n : Nat} {l0 : List Int} {g : Nat} {cb : Array Value} {cf : Int → Int → Int} {Q : Int → Prop} (C : CmpOk g cb cf Q w0 blk off n l0) (hQ0 : ∀ x ∈ l0, Q x) (W : World) (l : List Int)
    (hW : SB en1 1 w0 blk off l W) (hst : St (lt := ltC cf) l0 l) (i j cap : Nat) (hij : i ≤ j) (hj : j ≤ n) :
    Calls Tryz.prog 105 #[.slice (some ⟨blk, off, none⟩) n cap, .int .i64 i, .int .i64 j, .func (.func g) #[] cb] W fun e W' => e = .returned (.tuple #[]) ∧ SB en1 1 w0 blk off (l.take i ++ isortL (ltC cf) ((l.drop i).take (j - i)) ++ l.drop j) W' := by
  have hn : l.length = n := by rw [hst.len]; exact C.row.hn
  have hc := cut3 l i j hij
  have hQ : ∀ x ∈ l, Q x := fun x hx => hQ0 x (hst.eqv.perm.mem_iff.2 hx)
  refine insertion_any C W (l.take i) ((l.drop i).take (j - i)) (l.drop j) (by rw [← hc]; exact hW) (by rw [← hc]; exact hn) (by rw [← hc]; exact hQ) i j cap ?_ ?_
  · rw [List.length_take]; omega
  · rw [List.length_take, List.length_take, List.length_drop]; omega

theorem symMerge_cut {w0 : World} {blk off n : Nat} {l0 : List Int} {g : Nat} {cb : Array Value} {cf : Int → Int → Int} {Q : Int → Prop} (C : CmpOk g cb cf Q w0 blk off n l0) (hQ0 : ∀ x ∈ l0, Q x) (W : World) (l : List Int)
    (hW : SB en1 1 w0 blk off l W) (hst : St (lt := ltC cf) l0 l) (i m j cap : Nat) (him : i < m) (hmj : m < j) (hj : j ≤ n) (h1 : AscIn (ltC cf) l i (m - i)) (h2 : AscIn (ltC cf) l m (j - m)) :
    Calls Tryz.prog 106 #[.slice (some ⟨blk, off, none⟩) n cap, .int .i64 i, .int .i64 m, .int .i64 j, .func (.func g) #[] cb] W fun e W' => e = .returned (.tuple #[]) ∧ SB en1 1 w0 blk off (l.take i ++ isortL (ltC cf) ((l.drop i).take (j - i)) ++ l.drop j) W' := by
  have hn : l.length = n := by rw [hst.len]; exact C.row.hn
  have hc := cut3 l i j (by omega)
  have hQ : ∀ x ∈ l, Q x := fun x hx => hQ0 x (hst.eqv.perm.mem_iff.2 hx)
  have e := cut4 l i m j (by omega) (by omega)
  rw [e] at hc
  have hc' : l = l.take i ++ (l.drop i).take (m - i) ++ (l.drop m).take (j - m) ++ l.drop j := by
    conv => lhs; rw [hc]
    simp only [List.append_assoc]
  have la : (l.take i).length = i := by rw [List.length_take]; omega
  have lb : ((l.drop i).take (m - i)).length = m - i := by rw [List.length_take, List.length_drop]; omega
  have lc : ((l.drop m).take (j - m)).length = j - m := by rw [List.length_take, List.length_drop]; omega
  rw [e]
  exact symMerge_any C _ W (l.take i) ((l.drop i).take (m - i)) ((l.drop m).take (j - m)) (l.drop j) (by rw [← hc']; exact hW) (by rw [← hc']; exact hn) (by rw [← hc']; exact hQ) h1 h2 (by omega) (by omega) (Nat.le_refl _) i m j cap la.symm (by omega) (by omega)

section
variable {α : Type} {lt : α → α → Bool}

/-- The first k pairs of stretches of s are merged. -/
def Ph (lt : α → α → Bool) (s k : Nat) (l : List α) : Prop := (∀ c, c < k → AscIn lt l (2 * s * c) (2 * s)) ∧ (∀ c, 2 * k ≤ c → AscIn lt l (s * c) s)

theorem ph_start {s : Nat} {l : List α} (h : ∀ c, AscIn lt l (s * c) s) : Ph lt s 0 l := ⟨fun c hc => by omega, fun c _ => h c⟩

theorem ph_at {s k a : Nat} {l : List α} (h : Ph lt s k l) (ha : a = 2 * s * k) : AscIn lt l a s ∧ AscIn lt l (a + s) s := by
  have e1 : s * (2 * k) = a := by rw [ha, Nat.mul_comm 2 s, Nat.mul_assoc]
  have e2 : s * (2 * k + 1) = a + s := by rw [Nat.mul_add, e1, Nat.mul_one]
  have h1 := h.2 (2 * k) (Nat.le_refl _)
  have h2 := h.2 (2 * k + 1) (by omega)
  rw [e1] at h1
  rw [e2] at h2
  exact ⟨h1, h2⟩

theorem mul_step {s c k : Nat} (h : c < k) : 2 * s * c + 2 * s ≤ 2 * s * k := by
  have := Nat.mul_le_mul_left (2 * s) (show c + 1 ≤ k from h)
  rwa [Nat.mul_add, Nat.mul_one] at this

theorem ph_step [Inhabited α] (h : SWO lt) {l0 l : List α} {s k a : Nat} (hs : St (lt := lt) l0 l) (hp : Ph lt s k l) (ha : a = 2 * s * k) (hj : a + 2 * s ≤ l.length) :
    St (lt := lt) l0 (l.take a ++ isortL lt ((l.drop a).take (a + 2 * s - a)) ++ l.drop (a + 2 * s)) ∧ Ph lt s (k + 1) (l.take a ++ isortL lt ((l.drop a).take (a + 2 * s - a)) ++ l.drop (a + 2 * s)) := by
  obtain ⟨g1, g2, g3⟩ := st_step h hs (i := a) (j := a + 2 * s) (by omega) hj
  refine ⟨g1, fun c hc => ?_, fun c hc => ?_⟩
  · by_cases e : c = k
    · subst e
      rw [← ha]
      rw [show a + 2 * s - a = 2 * s by omega] at g2 ⊢
      exact g2
    · have := mul_step (s := s) (show c < k by omega)
      exact g3 _ _ (.inl (by omega)) (hp.1 c (by omega))
  · have e : s * (2 * (k + 1)) = a + 2 * s := by rw [ha, Nat.mul_add, Nat.mul_one, Nat.mul_add, ← Nat.mul_assoc, Nat.mul_comm s 2]
    have := Nat.mul_le_mul_left s hc
    exact g3 _ _ (.inr (by omega)) (hp.2 c (by omega))

theorem ph_end [Inhabited α] (h : SWO lt) {l0 l : List α} {s k a : Nat} (hs : St (lt := lt) l0 l) (hp : Ph lt s k l) (ha : a = 2 * s * k) (h1 : l.length < a + 2 * s) (h2 : a + s < l.length) :
    St (lt := lt) l0 (l.take a ++ isortL lt ((l.drop a).take (l.length - a)) ++ l.drop l.length) ∧ ∀ c, AscIn lt (l.take a ++ isortL lt ((l.drop a).take (l.length - a)) ++ l.drop l.length) (2 * s * c) (2 * s) := by
  obtain ⟨g1, g2, g3⟩ := st_step h hs (i := a) (j := l.length) (by omega) (Nat.le_refl _)
  have hl := g1.len
  have hl0 := hs.len
  refine ⟨g1, fun c => ?_⟩
  by_cases e : c = k
  · subst e
    rw [← ha]
    exact ascIn_more g2 (by omega)
  · by_cases e' : c < k
    · have := mul_step (s := s) e'
      exact g3 _ _ (.inl (by omega)) (hp.1 c e')
    · have := mul_step (s := s) (show k < c by omega)
      exact ascIn_out (by omega)

theorem ph_done {l : List α} {s k a : Nat} (hp : Ph lt s k l) (ha : a = 2 * s * k) (h1 : l.length < a + 2 * s) (h2 : l.length ≤ a + s) : ∀ c, AscIn lt l (2 * s * c) (2 * s) := by
  intro c
  by_cases e : c = k
  · subst e
    rw [← ha]
    exact ascIn_more (ph_at hp ha).1 h2
  · by_cases e' : c < k
    · exact hp.1 c e'
    · have := mul_step (s := s) (show k < c by omega)
      exact ascIn_out (by omega)
end

/-- The sort's state between two calls, of a row of l0. -/
def Mid (cf : Int → Int → Int) (w0 : World) (blk off : Nat) (l0 : List Int) (p : List Int → Prop) (W : World) : Prop :=
  ∃ l, SB en1 1 w0 blk off l W ∧ St (lt := ltC cf) l0 l ∧ p l

set_option maxRecDepth 100000 in
set_option maxHeartbeats 2000000 in
theorem stable_any {w0 : World} {blk off n : Nat} {l0 : List Int} {g : Nat} {cb : Array Value} {cf : Int → Int → Int} {Q : Int → Prop} (C : CmpOk g cb cf Q w0 blk off n l0) (hQ0 : ∀ x ∈ l0, Q x) (W : World) (hW : SB en1 1 w0 blk off l0 W) (cap : Nat) :
    Calls Tryz.prog 90 #[.slice (some ⟨blk, off, none⟩) n cap, .int .i64 n, .func (.func g) #[] cb] W fun e W' => e = .returned (.tuple #[]) ∧ SB en1 1 w0 blk off (isortL (ltC cf) l0) W' := by
  have hsm := C.small
  have HC := Lib.hid C
  have HN := Lib.hid C.row.hn
  have HQ := Lib.hid hQ0
  have HM0 : Hid (Mid cf w0 blk off l0 (fun l => ∀ c, c < 0 → AscIn (ltC cf) l (20 * c) 20) W) := ⟨l0, hW, ⟨Eqv.refl _, rfl⟩, fun c hc => by omega⟩
  clear C hQ0 hW
  go_enter Tryz.func90, Tryz.ntmps90
  go_wp2
  go_loopw [7, 8] (fun va vb wr => ∃ k : Nat, 20 * k ≤ n ∧ va = .int .i64 (20 * (k : Int)) ∧ vb = .int .i64 (20 * (k : Int) + 20) ∧ Hid (Mid cf w0 blk off l0 (fun l => ∀ c, c < k → AscIn (ltC cf) l (20 * c) 20) wr)) (fun va _ _ => n + 1 - (intOf va).toNat)
  case atStart => exact ⟨0, by omega, by go_num, by go_num, HM0.out⟩
  case round =>
    obtain ⟨k, hkn, rfl, rfl, HM⟩ := hrel
    rename World => wr
    by_cases hlt : 20 * k + 20 ≤ n
    · obtain ⟨l, hsb, hst, hp⟩ := HM.out
      have hc := insertion_cut HC.out HQ.out wr l hsb hst (20 * k) (20 * k + 20) cap (by omega) (by omega)
      rw [show ((20 * k : Nat) : Int) = 20 * (k : Int) by omega, show ((20 * k + 20 : Nat) : Int) = 20 * (k : Int) + 20 by omega] at hc
      have hs := st_step HC.out.swo hst (i := 20 * k) (j := 20 * k + 20) (by omega) (by rw [hst.len, HN.out]; omega)
      have hres : ∀ w', SB en1 1 w0 blk off (l.take (20 * k) ++ isortL (ltC cf) ((l.drop (20 * k)).take (20 * k + 20 - 20 * k)) ++ l.drop (20 * k + 20)) w' → Hid (Mid cf w0 blk off l0 (fun l => ∀ c, c < k + 1 → AscIn (ltC cf) l (20 * c) 20) w') := by
        intro w' h
        refine ⟨_, h, hs.1, fun c hc => ?_⟩
        by_cases e : c = k
        · subst e
          have := hs.2.1
          rw [show 20 * c + 20 - 20 * c = 20 by omega] at this ⊢
          exact this
        · exact hs.2.2 _ _ (.inl (by omega)) (hp c (by omega))
      have HCL := Lib.hid hc
      have HR := Lib.hid hres
      have hd : decide (20 * (k : Int) + 20 ≤ (n : Int)) = true := by simp; omega
      clear hc hs hres hsb hst hp HM
      go_wp2_with fail
      refine HCL.out.mono ?_
      rintro e w1 ⟨rfl, h1⟩
      have h2 := HR.out _ h1
      clear h1
      go_wp2_with fail
      go_roundw
      case rel => exact ⟨k + 1, by omega, by go_num, by go_num, h2⟩
      case measure => simp [intOf]; omega
    · obtain ⟨l, hsb, hst, hp⟩ := HM.out
      have hln : l.length = n := by rw [hst.len, HN.out]
      have hc := insertion_cut HC.out HQ.out wr l hsb hst (20 * k) n cap (by omega) (by omega)
      rw [show ((20 * k : Nat) : Int) = 20 * (k : Int) by omega] at hc
      have hs := st_step HC.out.swo hst (i := 20 * k) (j := n) (by omega) (by omega)
      have hres : ∀ w', SB en1 1 w0 blk off (l.take (20 * k) ++ isortL (ltC cf) ((l.drop (20 * k)).take (n - 20 * k)) ++ l.drop n) w' → Hid (Mid cf w0 blk off l0 (fun l => ∀ c, AscIn (ltC cf) l (20 * c) 20) w') := by
        intro w' h
        refine ⟨_, h, hs.1, fun c => ?_⟩
        have hl' := hs.1.len
        rw [HN.out] at hl'
        by_cases e : c = k
        · subst e
          exact ascIn_more hs.2.1 (by omega)
        · by_cases e' : c < k
          · exact hs.2.2 _ _ (.inl (by omega)) (hp c (by omega))
          · exact ascIn_out (by omega)
      have HCL := Lib.hid hc
      have HR := Lib.hid hres
      have hd : decide (20 * (k : Int) + 20 ≤ (n : Int)) = false := by simp; omega
      clear hc hs hres hsb hst hp HM hln
      go_wp2_with fail
      refine HCL.out.mono ?_
      rintro e w1 ⟨rfl, h1⟩
      have h2 := HR.out _ h1
      clear h1 HCL HR
      go_wp2_with fail
      go_loopw [6] (fun vs wo => ∃ s : Nat, 0 < s ∧ s ≤ 2 * n + 40 ∧ vs = .int .i64 s ∧ Hid (Mid cf w0 blk off l0 (fun l => ∀ c, AscIn (ltC cf) l (s * c) s) wo)) (fun vs _ => 2 * n + 41 - (intOf vs).toNat)
      case atStart => exact ⟨20, by omega, by omega, rfl, h2⟩
      case round =>
        obtain ⟨s, hs0, hs1, rfl, HM⟩ := hrel
        rename World => wo
        clear h2
        by_cases hsn : s < n
        · obtain ⟨lo, hsb, hst, hp⟩ := HM.out
          have HI0 : Hid (∃ k, 0 = 2 * s * k ∧ Mid cf w0 blk off l0 (Ph (ltC cf) s k) wo) := ⟨0, by omega, lo, hsb, hst, ph_start hp⟩
          clear hsb hst hp HM
          go_wp2_with fail
          go_loopw [7, 8] (fun va vb wr => ∃ a : Nat, a ≤ n ∧ va = .int .i64 a ∧ vb = .int .i64 ((a : Int) + 2 * (s : Int)) ∧ Hid (∃ k, a = 2 * s * k ∧ Mid cf w0 blk off l0 (Ph (ltC cf) s k) wr)) (fun va _ _ => n + 1 - (intOf va).toNat)
          case atStart => exact ⟨0, by omega, rfl, by go_num, HI0.out⟩
          case round =>
            obtain ⟨a, han, rfl, rfl, HI⟩ := hrel
            rename World => wr
            by_cases hab : a + 2 * s ≤ n
            · obtain ⟨k, hak, l, hsb, hst, hp⟩ := HI.out
              have hln : l.length = n := by rw [hst.len, HN.out]
              have hat := ph_at hp hak
              have hc := symMerge_cut HC.out HQ.out wr l hsb hst a (a + s) (a + 2 * s) cap (by omega) (by omega) (by omega) (by rw [show a + s - a = s by omega]; exact hat.1) (by rw [show a + 2 * s - (a + s) = s by omega]; exact hat.2)
              rw [show ((a + s : Nat) : Int) = (a : Int) + (s : Int) by omega, show ((a + 2 * s : Nat) : Int) = (a : Int) + 2 * (s : Int) by omega] at hc
              have hst2 := ph_step HC.out.swo hst hp hak (by omega)
              have hres : ∀ w', SB en1 1 w0 blk off (l.take a ++ isortL (ltC cf) ((l.drop a).take (a + 2 * s - a)) ++ l.drop (a + 2 * s)) w' → Hid (∃ k, a + 2 * s = 2 * s * k ∧ Mid cf w0 blk off l0 (Ph (ltC cf) s k) w') := fun w' h =>
                ⟨k + 1, by rw [Nat.mul_add, Nat.mul_one, hak], _, h, hst2.1, hst2.2⟩
              have HCL := Lib.hid hc
              have HR := Lib.hid hres
              clear hln hat hc hst2 hres hsb hst hp hak
              go_wp2_with fail
              refine HCL.out.mono ?_
              rintro e w2 ⟨rfl, h3⟩
              have h4 := HR.out _ h3
              clear h3 HCL HR
              go_wp2_with fail
              go_roundw
              case rel => exact ⟨a + 2 * s, by omega, by go_num, by go_num, h4⟩
              case measure => simp [intOf]; omega
            · by_cases ham : a + s < n
              · obtain ⟨k, hak, l, hsb, hst, hp⟩ := HI.out
                have hln : l.length = n := by rw [hst.len, HN.out]
                have hat := ph_at hp hak
                have hc := symMerge_cut HC.out HQ.out wr l hsb hst a (a + s) n cap (by omega) (by omega) (by omega) (by rw [show a + s - a = s by omega]; exact hat.1) (ascIn_more hat.2 (by omega))
                rw [show ((a + s : Nat) : Int) = (a : Int) + (s : Int) by omega] at hc
                have hst2 := ph_end HC.out.swo hst hp hak (by omega) (by omega)
                rw [hln] at hst2
                have hres : ∀ w', SB en1 1 w0 blk off (l.take a ++ isortL (ltC cf) ((l.drop a).take (n - a)) ++ l.drop n) w' → Hid (Mid cf w0 blk off l0 (fun l => ∀ c, AscIn (ltC cf) l (2 * s * c) (2 * s)) w') := fun w' h =>
                  ⟨_, h, hst2.1, hst2.2⟩
                have HCL := Lib.hid hc
                have HR := Lib.hid hres
                clear hln hat hc hst2 hres hsb hst hp hak
                go_wp2_with fail
                refine HCL.out.mono ?_
                rintro e w2 ⟨rfl, h3⟩
                have h4 := HR.out _ h3
                clear h3 HCL HR
                go_wp2_with fail
                go_roundw
                case rel => exact ⟨2 * s, by omega, by omega, by go_num, h4⟩
                case measure => simp [intOf]; omega
              · obtain ⟨k, hak, l, hsb, hst, hp⟩ := HI.out
                have hln : l.length = n := by rw [hst.len, HN.out]
                have h4 : Hid (Mid cf w0 blk off l0 (fun l => ∀ c, AscIn (ltC cf) l (2 * s * c) (2 * s)) wr) := ⟨l, hsb, hst, ph_done hp hak (by omega) (by omega)⟩
                clear hln hsb hst hp hak
                go_wp2_with fail
                go_roundw
                case rel => exact ⟨2 * s, by omega, by omega, by go_num, h4⟩
                case measure => simp [intOf]; omega
        · obtain ⟨l, hsb, hst, hp⟩ := HM.out
          have hln : l.length = n := by rw [hst.len, HN.out]
          have ha : Asc (ltC cf) l := by
            have := hp 0
            unfold AscIn at this
            rwa [Nat.mul_zero, List.drop_zero, List.take_of_length_le (by omega)] at this
          have hfin : SB en1 1 w0 blk off (isortL (ltC cf) l0) wo := by rw [← eq_isort hst.eqv ha]; exact hsb
          have HF := Lib.hid hfin
          clear hfin ha hln hsb hst hp HM
          go_wp2_with fail
          go_end0
          exact ⟨rfl, HF.out⟩
end Go.Proofs.YtnolbabpkhdpmaaGreat
