/-
  Layer 7 (multi): num; the first walks of the laws' own functions; what the example comes to, plain.
-/
import Derived.Test.YtagbaejgjhmokaaMI
import Derived.Test.YtagbaejgjhmokaaVC
namespace Go.Proofs.Ytagbaejgjhmokaa
open Go.RowKit Go.Sort Go.BigFrame

def numV (n : Int) : Val := ⟨1, n, ⟨#[]⟩⟩
set_option maxHeartbeats 400000 in
theorem num_any (n : Int) (w : World) : Calls Try.prog 30 #[.int .i64 n] w fun e w' => e = .returned (.agg #[.int .i64 1, .int .i64 n, .string ⟨#[]⟩]) ∧ Below w.heap.size w w' := by
  go_enter Try.func30, Try.ntmps30
  go_wp2
  exact bodyPost_ret (v := .agg #[.int .i64 1, .int .i64 n, .string ⟨#[]⟩]) (by simp [results, Try.results30, go_sem]) rfl ⟨rfl, below_alloc _ _⟩

def pA1 : Prt := bareP (numV 5) ⟨1, 1⟩
def pA2 : Prt := bareP (numV 7) ⟨2, 1⟩
def pA3 : Prt := bareP (numV 6) ⟨1, 2⟩
theorem alive_w1 : writeL [] (numV 5) ⟨1, 1⟩ [] = [pA1] := by decide +kernel
theorem alive_w2 : writeL [pA1] (numV 7) ⟨2, 1⟩ [] = [pA1, pA2] := by decide +kernel
theorem alive_w3 : writeL [pA1, pA2] (numV 6) ⟨1, 2⟩ [1] = [pA3, pA2] := by decide +kernel
theorem alive_j : joinL [pA1, pA2] [pA3, pA2] [1, 1] [2, 1] = [pA3, pA2] := by decide +kernel
theorem alive_v1 : valsL [pA1, pA2] = [numV 5, numV 7] := by decide +kernel
theorem alive_v2 : valsL [pA3, pA2] = [numV 6, numV 7] := by decide +kernel
theorem alive_s : showL [pA1, pA2] = numV 7 := by decide +kernel
theorem alive_s0 : showL [] = nilV := by decide +kernel
theorem alive_r : RightPs [pA3, pA2] := ⟨by decide +kernel, by decide +kernel⟩

/-- What hands back a cell. -/
def CellP (kd k n : Int) (s : ByteArray) (w : World) (l : List Prt) (e : Ending) (w' : World) : Prop :=
  ∃ a c, e = .returned (.agg #[.int .i64 kd, .int .i64 k, .int .i64 n, .string s, .slice a l.length c]) ∧ PRd w' (.slice a l.length c) l ∧ Below w.heap.size w w'
theorem CellP.of {kd k n : Int} {s : ByteArray} {w : World} {l m : List Prt} {e : Ending} {w' : World} (h : CellPost kd ⟨k, n, s⟩ w l e w') (hm : l = m) : CellP kd k n s w m e w' := by
  subst hm
  obtain ⟨v, rfl, ho, hb⟩ := h
  obtain ⟨a, c, rfl, _⟩ := Rd.of_own ho
  exact ⟨a, c, rfl, Rd.of_own ho, hb⟩
/-- .. whose parts the call owns. -/
def CellO (kd k n : Int) (s : ByteArray) (w : World) (l : List Prt) (e : Ending) (w' : World) : Prop :=
  ∃ a c, e = .returned (.agg #[.int .i64 kd, .int .i64 k, .int .i64 n, .string s, .slice a l.length c]) ∧ OwnP w' w.heap.size (.slice a l.length c) l ∧ Below w.heap.size w w'
theorem CellO.of {kd k n : Int} {s : ByteArray} {w : World} {l m : List Prt} {e : Ending} {w' : World} (h : CellPost kd ⟨k, n, s⟩ w l e w') (hm : l = m) : CellO kd k n s w m e w' := by
  subst hm
  obtain ⟨v, rfl, ho, hb⟩ := h
  obtain ⟨a, c, rfl, _⟩ := Rd.of_own ho
  exact ⟨a, c, rfl, ho, hb⟩
theorem write_o {kd k n vk vn : Int} {s vs : ByteArray} {va vw : Value} {l m : List Prt} {dev seq : Int} {knew : List Int} {w : World} (ha : PRd w va l) (hk : Rd w vw knew.length (knew.map ic)) (hn : l.length ≤ 1000) (hm : writeL l ⟨vk, vn, vs⟩ ⟨dev, seq⟩ knew = m) :
    Calls Try.prog 15 #[.agg #[.int .i64 kd, .int .i64 k, .int .i64 n, .string s, va], .agg #[.int .i64 vk, .int .i64 vn, .string vs], .agg #[.int .i64 dev, .int .i64 seq], vw] w (CellO kd k n s w m) :=
  (write_any kd ⟨k, n, s⟩ ⟨vk, vn, vs⟩ va vw l ⟨dev, seq⟩ knew w ha hk hn).mono fun _ _ h => CellO.of h hm
theorem write_p {kd k n vk vn : Int} {s vs : ByteArray} {va vw : Value} {l m : List Prt} {dev seq : Int} {knew : List Int} {w : World} (ha : PRd w va l) (hk : Rd w vw knew.length (knew.map ic)) (hn : l.length ≤ 1000) (hm : writeL l ⟨vk, vn, vs⟩ ⟨dev, seq⟩ knew = m) :
    Calls Try.prog 15 #[.agg #[.int .i64 kd, .int .i64 k, .int .i64 n, .string s, va], .agg #[.int .i64 vk, .int .i64 vn, .string vs], .agg #[.int .i64 dev, .int .i64 seq], vw] w (CellP kd k n s w m) :=
  (write_any kd ⟨k, n, s⟩ ⟨vk, vn, vs⟩ va vw l ⟨dev, seq⟩ knew w ha hk hn).mono fun _ _ h => CellP.of h hm
theorem refWrite_p {kd k n vk vn : Int} {s vs : ByteArray} {va vw : Value} {l m : List Prt} {dev seq : Int} {knew : List Int} {w : World} (ha : PRd w va l) (hk : Rd w vw knew.length (knew.map ic)) (hn : l.length ≤ 1000) (hm : writeL l ⟨vk, vn, vs⟩ ⟨dev, seq⟩ knew = m) :
    Calls Try.prog 16 #[.agg #[.int .i64 kd, .int .i64 k, .int .i64 n, .string s, va], .agg #[.int .i64 vk, .int .i64 vn, .string vs], .agg #[.int .i64 dev, .int .i64 seq], vw] w (CellP kd k n s w m) :=
  (refWrite_any kd ⟨k, n, s⟩ ⟨vk, vn, vs⟩ va vw l ⟨dev, seq⟩ knew w ha hk hn).mono fun _ _ h => CellP.of h hm
def JoinP (w : World) (l : List Prt) (e : Ending) (w' : World) : Prop :=
  ∃ a c, e = .returned (.agg #[.int .i64 1, .int .i64 0, .int .i64 0, .string ⟨#[]⟩, .slice a l.length c]) ∧ PRd w' (.slice a l.length c) l ∧ Below w.heap.size w w'
theorem JoinP.of {w : World} {l m : List Prt} {e : Ending} {w' : World} (h : JoinPost w l e w') (hm : l = m) : JoinP w m e w' := by
  subst hm
  obtain ⟨v, rfl, ho, hb⟩ := h
  obtain ⟨a, c, rfl, _⟩ := id ho
  exact ⟨a, c, rfl, ho, hb⟩
theorem rd_ints (w : World) (cs : Array Value) (e : TypeId) (l : List Int) (g : Nat) (hg : w.heap.size = g) (hc : cs.toList = l.map ic) (hn : l.length ≤ 1000) : Rd (w.alloc (.cells cs e)) (.slice (some ⟨g, 0, none⟩) l.length l.length) l.length (l.map ic) := by
  subst hg
  rw [← hc]
  exact rd_lit w cs e l.length (by unfold maxLen; omega)
theorem rd_vals (w : World) (cs : Array Value) (e : TypeId) (l : List Val) (g : Nat) (hg : w.heap.size = g) (hc : cs.toList = vCs l) (hn : l.length ≤ 1000) : Rd (w.alloc (.cells cs e)) (.slice (some ⟨g, 0, none⟩) l.length l.length) l.length (vCs l) := by
  subst hg
  rw [← hc]
  exact rd_lit w cs e l.length (by unfold maxLen; omega)
theorem join_p {k1 ck cn k2 dk dn : Int} {cs ds : ByteArray} {va vb vk vl : Value} {a b m : List Prt} (ka kb : List Int) {w : World} (ha : PRd w va a) (hb : PRd w vb b) (hk : Rd w vk ka.length (ka.map ic)) (hl : Rd w vl kb.length (kb.map ic)) (hn : a.length ≤ 400) (hn' : b.length ≤ 400) (hm : joinL a b ka kb = m) :
    Calls Try.prog 17 #[.agg #[.int .i64 k1, .int .i64 ck, .int .i64 cn, .string cs, va], .agg #[.int .i64 k2, .int .i64 dk, .int .i64 dn, .string ds, vb], vk, vl] w (JoinP w m) :=
  (join_any k1 k2 ⟨ck, cn, cs⟩ ⟨dk, dn, ds⟩ va vb vk vl a b ka kb w ha hb hk hl (by omega) (by omega)).mono fun _ _ h => JoinP.of h hm
theorem refJoin_p {k1 ck cn k2 dk dn : Int} {cs ds : ByteArray} {va vb vk vl : Value} {a b m : List Prt} (ka kb : List Int) {w : World} (ha : PRd w va a) (hb : PRd w vb b) (hk : Rd w vk ka.length (ka.map ic)) (hl : Rd w vl kb.length (kb.map ic)) (hn : a.length ≤ 400) (hn' : b.length ≤ 400) (hm : joinL a b ka kb = m) :
    Calls Try.prog 18 #[.agg #[.int .i64 k1, .int .i64 ck, .int .i64 cn, .string cs, va], .agg #[.int .i64 k2, .int .i64 dk, .int .i64 dn, .string ds, vb], vk, vl] w (JoinP w m) :=
  (refJoin_any k1 k2 ⟨ck, cn, cs⟩ ⟨dk, dn, ds⟩ va vb vk vl a b ka kb w ha hb hk hl hn hn').mono fun _ _ h => JoinP.of h hm
def ValsP (w : World) (l : List Val) (e : Ending) (w' : World) : Prop := ∃ a c, e = .returned (.slice a l.length c) ∧ Rd w' (.slice a l.length c) l.length (vCs l) ∧ Below w.heap.size w w'
def ValsO (w : World) (l : List Val) (e : Ending) (w' : World) : Prop := ∃ a c, e = .returned (.slice a l.length c) ∧ OwnV w' w.heap.size (.slice a l.length c) l ∧ Below w.heap.size w w'
theorem values_o {kd k n : Int} {s : ByteArray} {va : Value} {l : List Prt} {m : List Val} {w : World} (ha : PRd w va l) (hn : l.length ≤ 1000) (hm : valsL l = m) :
    Calls Try.prog 24 #[.agg #[.int .i64 kd, .int .i64 k, .int .i64 n, .string s, va]] w (ValsO w m) := by
  refine (values_any kd ⟨k, n, s⟩ va l w ha hn).mono ?_
  rintro e w' ⟨v, rfl, ho, hb⟩
  rw [hm] at ho
  obtain ⟨a, c, rfl, _⟩ := Rd.of_own ho
  exact ⟨a, c, rfl, ho, hb⟩
theorem values_p {kd k n : Int} {s : ByteArray} {va : Value} {l : List Prt} {m : List Val} {w : World} (ha : PRd w va l) (hn : l.length ≤ 1000) (hm : valsL l = m) :
    Calls Try.prog 24 #[.agg #[.int .i64 kd, .int .i64 k, .int .i64 n, .string s, va]] w (ValsP w m) := by
  refine (values_any kd ⟨k, n, s⟩ va l w ha hn).mono ?_
  rintro e w' ⟨v, rfl, ho, hb⟩
  rw [hm] at ho
  obtain ⟨a, c, rfl, _⟩ := Rd.of_own ho
  exact ⟨a, c, rfl, Rd.of_own ho, hb⟩
theorem show_p {kd k n : Int} {s : ByteArray} {va : Value} {l : List Prt} {vk vn : Int} {vs : ByteArray} {w : World} (ha : PRd w va l) (hn : l.length ≤ 1000) (hm : showL l = ⟨vk, vn, vs⟩) :
    Calls Try.prog 23 #[.agg #[.int .i64 kd, .int .i64 k, .int .i64 n, .string s, va]] w fun e w' => e = .returned (.agg #[.int .i64 vk, .int .i64 vn, .string vs]) ∧ Below w.heap.size w w' := by
  have := show_any kd ⟨k, n, s⟩ va l w ha hn
  rw [hm] at this
  exact this
theorem same_p {kd k n : Int} {s : ByteArray} {va vb : Value} (l : List Prt) {w : World} (ha : PRd w va l) (hb : PRd w vb l) (hn : l.length ≤ 1000) :
    Calls Try.prog 14 #[.agg #[.int .i64 kd, .int .i64 k, .int .i64 n, .string s, va], .agg #[.int .i64 kd, .int .i64 k, .int .i64 n, .string s, vb]] w fun e w' => e = .returned (.bool true) ∧ Below w.heap.size w w' :=
  refSame_any kd ⟨k, n, s⟩ va vb l w ha hb (by omega)
end Go.Proofs.Ytagbaejgjhmokaa
