/-
  Layer 20 (past): texts joined by tools/join.py: XYV, XYT, XQA, XYK, XYA, XYO.
-/
import Derived.Test.YtnolbabpkhdpmaaGreatTI
import Derived.Test.YtnolbabpkhdpmaaGreatTH
import Derived.Test.YtnolbabpkhdpmaaGreatTO
import Derived.MapKept
import Derived.Test.YtnolbabpkhdpmaaGreatSF
import Derived.Lib.SliceRun
import Derived.Test.YtnolbabpkhdpmaaGreatTK
/- Layer 5 (vector): each, Upto, Same, both, Join. -/
namespace Go.Proofs.YtnolbabpkhdpmaaGreat
open Go.RowKit Go.Sort Go.BigFrame

/-! ### Plain -/
def eachB (p : Int → Int → Bool) (a b : List Int) : Bool := (List.range (longN a b)).all fun (j : Nat) => p (ofV a ((j : Int) + 1)) (ofV b ((j : Int) + 1))
def uptoB (a b : List Int) : Bool := eachB (fun x y => decide (x ≤ y)) a b
def sameB (a b : List Int) : Bool := eachB (fun x y => x == y) a b
theorem eachB_iff {p : Int → Int → Bool} {a b : List Int} : eachB p a b = true ↔ ∀ j : Nat, j < longN a b → p (ofV a ((j : Int) + 1)) (ofV b ((j : Int) + 1)) = true := by
  unfold eachB
  rw [List.all_eq_true]
  exact ⟨fun h j hj => h j (List.mem_range.2 hj), fun h j hj => h j (List.mem_range.1 hj)⟩
theorem uptoB_iff {a b : List Int} : uptoB a b = true ↔ UptoV a b := by
  unfold uptoB
  rw [eachB_iff]
  exact ⟨fun h => upto_of (Nat.le_refl _) fun j hj => of_decide_eq_true (h j hj), fun h j _ => decide_eq_true (h _)⟩
theorem sameB_iff {a b : List Int} : sameB a b = true ↔ SameV a b := by
  unfold sameB
  rw [eachB_iff]
  exact ⟨fun h => same_of (Nat.le_refl _) fun j hj => eq_of_beq (h j hj), fun h j _ => beq_iff_eq.2 (h _)⟩
theorem eachB_stop {p : Int → Int → Bool} {a b : List Int} {k : Nat} (hk : k < longN a b) (h : p (ofV a ((k : Int) + 1)) (ofV b ((k : Int) + 1)) = false) : eachB p a b = false := by
  cases he : eachB p a b
  · rfl
  · rw [eachB_iff.1 he k hk] at h; cases h
/-- What two come to, place by place. -/
def bothL (f : Int → Int → Int) (a b : List Int) (k : Nat) : List Int := (List.range k).map fun (j : Nat) => f (ofV a ((j : Int) + 1)) (ofV b ((j : Int) + 1))
theorem bothL_succ (f : Int → Int → Int) (a b : List Int) (k : Nat) : bothL f a b (k + 1) = bothL f a b k ++ [f (ofV a ((k : Int) + 1)) (ofV b ((k : Int) + 1))] := by
  unfold bothL; rw [List.range_succ, List.map_append]; rfl
theorem bothL_len (f : Int → Int → Int) (a b : List Int) (k : Nat) : (bothL f a b k).length = k := by simp [bothL]
def joinV (a b : List Int) : List Int := trimL (bothL max a b (longN a b))
theorem bothL_getD (f : Int → Int → Int) (a b : List Int) (k j : Nat) (hj : j < k) : (bothL f a b k).getD j 0 = f (ofV a ((j : Int) + 1)) (ofV b ((j : Int) + 1)) := by
  unfold bothL
  rw [List.getD_eq_getElem?_getD, List.getElem?_map, List.getElem?_range hj]; rfl
theorem ofV_joinV (a b : List Int) (d : Int) : ofV (joinV a b) d = max (ofV a d) (ofV b d) := by
  unfold joinV
  rw [ofV_trim]
  rcases Int.lt_or_le d 1 with h | h
  · rw [ofV_out (.inl h), ofV_out (.inl h), ofV_out (.inl h)]; rfl
  obtain ⟨j, rfl⟩ : ∃ j : Nat, d = (j : Int) + 1 := ⟨(d - 1).toNat, by omega⟩
  rw [ofV_getD (bothL _ _ _ _)]
  rcases Nat.lt_or_ge j (longN a b) with hj | hj
  · exact bothL_getD max a b _ j hj
  · have h1 : (bothL max a b (longN a b)).length ≤ j := by rw [bothL_len]; exact hj
    unfold longN at hj
    rw [ofV_out (l := a) (.inr (by omega)), ofV_out (l := b) (.inr (by omega)), List.getD_eq_getElem?_getD, List.getElem?_eq_none h1]; rfl

/-! ### Walks -/
structure TestI2 (g : Nat) (cb : Array Value) (p : Int → Int → Bool) : Prop where
  eg : ∀ args w, (callFunc g args).run Tryz.prog w = .ok (.enter g args) w
  call : ∀ (x y : Int) (W : World), Calls Tryz.prog g (#[.int .i64 x, .int .i64 y] ++ cb) W fun e w' => e = .returned (.bool (p x y)) ∧ W = w'

set_option maxRecDepth 100000 in
set_option maxHeartbeats 1000000 in
theorem each_any {g : Nat} {cb : Array Value} {p : Int → Int → Bool} (va vb : Value) (a b : List Int) (w : World) (C : TestI2 g cb p) (ha : Rd w va a.length (a.map ic)) (hb : Rd w vb b.length (b.map ic)) :
    Calls Tryz.prog 31 #[va, vb, .func (.func g) #[] cb] w fun e w' => e = .returned (.bool (eachB p a b)) ∧ w = w' := by
  have HA := Lib.hid ha
  have HB := Lib.hid hb
  obtain ⟨ao, ca, rfl, hna, hca, _, _⟩ := id ha
  obtain ⟨bo, cb', rfl, hnb, hcb, _, _⟩ := id hb
  unfold maxLen at hca hcb
  obtain ⟨n, hn⟩ : ∃ n, a.length = n := ⟨_, rfl⟩
  obtain ⟨m, hm⟩ : ∃ m, b.length = m := ⟨_, rfl⟩
  rw [hn] at hna ⊢
  rw [hm] at hnb ⊢
  obtain ⟨M, hM⟩ : ∃ M, longN a b = M := ⟨_, rfl⟩
  have hmx : max (n : Int) (m : Int) = (M : Int) := by rw [← hM, ← hn, ← hm]; unfold longN; omega
  have hMm : M ≤ 9223372036854775807 := by rw [← hM]; unfold longN; omega
  have HM := Lib.hid hM
  have HN := Lib.hid hn
  have HMM := Lib.hid hm
  have heg := C.eg
  have HC := Lib.hid C.call
  clear ha hb hM hn hm C
  go_enter Tryz.func31, Tryz.ntmps31
  go_wp2_with fail
  go_loop [13] (fun vi => ∃ k : Nat, k ≤ M ∧ vi = .int .i64 (k : Int) ∧ Hid (∀ j : Nat, j < k → p (ofV a ((j : Int) + 1)) (ofV b ((j : Int) + 1)) = true)) (fun vi => M - (intOf vi).toNat)
  case atStart => exact ⟨0, Nat.zero_le _, rfl, fun j hj => absurd hj (by omega)⟩
  case round =>
    obtain ⟨k, hk, rfl, hall⟩ := hrel
    by_cases hlt : k < M
    · have h3 : decide ((k : Int) < (M : Int)) = true := decide_eq_true (by omega)
      have h4 : (k : Int) < (M : Int) := by omega
      have hx := ofV_any _ a ((k : Int) + 1) w HA.out
      have hy := ofV_any _ b ((k : Int) + 1) w HB.out
      rw [HN.out] at hx
      rw [HMM.out] at hy
      obtain ⟨x, hxe⟩ : ∃ x, ofV a ((k : Int) + 1) = x := ⟨_, rfl⟩
      obtain ⟨y, hye⟩ : ∃ y, ofV b ((k : Int) + 1) = y := ⟨_, rfl⟩
      rw [hxe] at hx
      rw [hye] at hy
      have hcl := HC.out x y w
      have HX := Lib.hid hx
      have HY := Lib.hid hy
      have HXE := Lib.hid hxe
      have HYE := Lib.hid hye
      clear hx hy hxe hye
      cases hp : p x y
      all_goals
        rw [hp] at hcl
        have HCL := Lib.hid hcl
        have HP := Lib.hid hp
        clear hcl hp
        go_wp2_with fail
        refine HX.out.mono ?_
        rintro e w1 ⟨rfl, rfl⟩
        go_wp2_with fail
        refine HY.out.mono ?_
        rintro e w1 ⟨rfl, rfl⟩
        go_wp2_with fail
        refine HCL.out.mono ?_
        rintro e w1 ⟨rfl, rfl⟩
        go_wp2_with fail
      · go_ret
        exact ⟨ret_bool (eachB_stop (k := k) (by rw [HM.out]; exact hlt) (by rw [HXE.out, HYE.out]; exact HP.out)).symm, rfl⟩
      · go_round
        case rel =>
          refine ⟨k + 1, by omega, by go_num, fun j hj => ?_⟩
          rcases Nat.lt_or_ge j k with h | h
          · exact hall.out j h
          · obtain rfl : j = k := by omega
            rw [HXE.out, HYE.out]; exact HP.out
        case measure => simp [intOf]; omega
    · have hkm : M = k := by omega
      subst hkm
      have h3 : decide ((M : Int) < (M : Int)) = false := decide_eq_false (by omega)
      go_wp2_with fail
      go_ret
      exact ⟨ret_bool (eachB_iff.2 (by rw [HM.out]; exact hall.out)).symm, rfl⟩

theorem upto1_test : TestI2 61 #[] (fun x y => decide (x ≤ y)) :=
  ⟨enters_of Tryz.func61 (by kernel_rfl) rfl, fun x y W => by
    show Calls _ _ #[.int .i64 x, .int .i64 y] _ _
    go_enter Tryz.func61, Tryz.ntmps61
    go_wp2
    go_ret
    exact ⟨rfl, rfl⟩⟩
theorem vUpto_any (va vb : Value) (a b : List Int) (w : World) (ha : Rd w va a.length (a.map ic)) (hb : Rd w vb b.length (b.map ic)) :
    Calls Tryz.prog 37 #[va, vb] w fun e w' => e = .returned (.bool (uptoB a b)) ∧ w = w' := by
  have H := Lib.hid (each_any va vb a b w upto1_test ha hb)
  clear ha hb
  go_enter Tryz.func37, Tryz.ntmps37
  go_wp2_with fail
  refine H.out.mono ?_
  rintro e w1 ⟨rfl, rfl⟩
  go_wp2_with fail
  go_ret
  exact ⟨rfl, rfl⟩

theorem same1_test : TestI2 32 #[] (fun x y => x == y) :=
  ⟨enters_of Tryz.func32 (by kernel_rfl) rfl, fun x y W => by
    show Calls _ _ #[.int .i64 x, .int .i64 y] _ _
    go_enter Tryz.func32, Tryz.ntmps32
    go_wp2
    go_ret
    exact ⟨rfl, rfl⟩⟩
theorem vSame_any (va vb : Value) (a b : List Int) (w : World) (ha : Rd w va a.length (a.map ic)) (hb : Rd w vb b.length (b.map ic)) :
    Calls Tryz.prog 10 #[va, vb] w fun e w' => e = .returned (.bool (sameB a b)) ∧ w = w' := by
  have H := Lib.hid (each_any va vb a b w same1_test ha hb)
  clear ha hb
  go_enter Tryz.func10, Tryz.ntmps10
  go_wp2_with fail
  refine H.out.mono ?_
  rintro e w1 ⟨rfl, rfl⟩
  go_wp2_with fail
  go_ret
  exact ⟨rfl, rfl⟩
end Go.Proofs.YtnolbabpkhdpmaaGreat
/- Layer 20 (past): transactions in memory, by their fields. (printed by tools/gen_yt.py) -/
namespace Go.Proofs.YtnolbabpkhdpmaaGreat
open Go.RowKit Go.Sort Go.BigFrame
attribute [local irreducible] FlowW

/-- A transaction in memory: its fields, and what its slices read as. -/
structure TxS where
  dev : Int
  seq : Int
  time : Int
  ad : Option Addr
  nd : Nat
  cd : Nat
  ao : Option Addr
  no : Nat
  co : Nat
  ae : Option Addr
  ne : Nat
  ce : Nat
  fm : Bool
  ah : Option Addr
  nh : Nat
  ch : Nat
  note : Int
  whom : Int
  upto : Int
  deps : List Int
  ops : List OpM
  els : List OpM
  hands : List HandT
instance : Inhabited TxS := ⟨⟨0, 0, 0, none, 0, 0, none, 0, 0, none, 0, 0, false, none, 0, 0, 0, 0, 0, [], [], [], []⟩⟩
def TxS.cs (x : TxS) : List Value := [.int .i64 x.dev, .int .i64 x.seq, .int .i64 x.time, .slice x.ad x.nd x.cd, .slice x.ao x.no x.co, .slice x.ae x.ne x.ce, .bool x.fm, .slice x.ah x.nh x.ch, .int .i64 x.note, .int .i64 x.whom, .int .i64 x.upto]
def TxS.agg (x : TxS) : Value := .agg #[.int .i64 x.dev, .int .i64 x.seq, .int .i64 x.time, .slice x.ad x.nd x.cd, .slice x.ao x.no x.co, .slice x.ae x.ne x.ce, .bool x.fm, .slice x.ah x.nh x.ch, .int .i64 x.note, .int .i64 x.whom, .int .i64 x.upto]
def TxS.dot (x : TxS) : Dt := ⟨x.dev, x.seq⟩
def TxS.st (x : TxS) : Stp := ⟨x.time, x.dev, x.seq⟩
structure TxS.Reads (W : World) (x : TxS) : Prop where
  deps : Rd W (.slice x.ad x.nd x.cd) x.nd (x.deps.map ic)
  hnd : x.nd = x.deps.length
  ops : Rd W (.slice x.ao x.no x.co) x.no (x.ops.flatMap OpM.cs)
  hno : x.no = x.ops.length
  opsR : ∀ a ∈ x.ops, a.Reads W
  els : Rd W (.slice x.ae x.ne x.ce) x.ne (x.els.flatMap OpM.cs)
  hne : x.ne = x.els.length
  elsR : ∀ a ∈ x.els, a.Reads W
  hands : Rd W (.slice x.ah x.nh x.ch) x.nh (x.hands.flatMap HandT.cs)
  hnh : x.nh = x.hands.length
theorem TxS.Reads.later {W W' : World} {x : TxS} (h : x.Reads W) (hb : Below W.heap.size W W') : x.Reads W' :=
  ⟨h.deps.later hb, h.hnd, h.ops.later hb, h.hno, fun a ha => (h.opsR a ha).later hb, h.els.later hb, h.hne, fun a ha => (h.elsR a ha).later hb, h.hands.later hb, h.hnh⟩
theorem TxS.Reads.deps' {W : World} {x : TxS} (h : x.Reads W) : Rd W (.slice x.ad x.nd x.cd) x.deps.length (x.deps.map ic) := h.hnd ▸ h.deps
def txsCs (l : List TxS) : List Value := l.flatMap TxS.cs
/-- A slice of transactions. -/
def LRd (W : World) (v : Value) (l : List TxS) : Prop := Rd W v l.length (txsCs l) ∧ ∀ t ∈ l, t.Reads W
theorem LRd.later {W W' : World} {v : Value} {l : List TxS} (h : LRd W v l) (hb : Below W.heap.size W W') : LRd W' v l := ⟨h.1.later hb, fun t ht => (h.2 t ht).later hb⟩
theorem elTx : El Tryz.prog 24 31 11 152 (.agg #[.int .i64 0, .int .i64 0, .int .i64 0, .slice none 0 0, .slice none 0 0, .slice none 0 0, .bool false, .slice none 0 0, .int .i64 0, .int .i64 0, .int .i64 0]) := El.mk' (by kernel_rfl) (by kernel_rfl) rfl (by decide)
theorem txsCs_length (l : List TxS) : (txsCs l).length = l.length * 11 := flatC_length TxS.cs 11 (fun _ => rfl) l
theorem txsCs_snoc (l : List TxS) (x : TxS) : txsCs (l ++ [x]) = txsCs l ++ x.cs := by unfold txsCs; rw [List.flatMap_append]; simp
theorem txsCs_one (x : TxS) : ∀ u ∈ x.cs, u.oneCell' = true := by
  intro u hu
  simp only [TxS.cs, List.mem_cons, List.not_mem_nil, or_false] at hu
  rcases hu with rfl | rfl | rfl | rfl | rfl | rfl | rfl | rfl | rfl | rfl | rfl <;> rfl
theorem rd_txs {w : World} {ao : Option Addr} {n c : Nat} {l : List TxS} (h : Rd w (.slice ao n c) n (txsCs l)) (hl : n = l.length) (k : Nat) (hk : k < l.length) {x : TxS} (hx : l[k] = x) :
    ∃ b o : Nat, (∀ W, (Instr.indexAt 24 (.slice ao n c) (.int .i64 (k : Int))).run Tryz.prog W = .ok (.pointer (some ⟨b, o, none⟩)) W) ∧ w.cell? ⟨b, o, none⟩ = some (.int .i64 x.dev) ∧ w.cell? ⟨b, o + 1, none⟩ = some (.int .i64 x.seq) ∧ w.cell? ⟨b, o + 2, none⟩ = some (.int .i64 x.time) ∧ w.cell? ⟨b, o + 3, none⟩ = some (.slice x.ad x.nd x.cd) ∧ w.cell? ⟨b, o + 4, none⟩ = some (.slice x.ao x.no x.co) ∧ w.cell? ⟨b, o + 5, none⟩ = some (.slice x.ae x.ne x.ce) ∧ w.cell? ⟨b, o + 6, none⟩ = some (.bool x.fm) ∧ w.cell? ⟨b, o + 7, none⟩ = some (.slice x.ah x.nh x.ch) ∧ w.cell? ⟨b, o + 8, none⟩ = some (.int .i64 x.note) ∧ w.cell? ⟨b, o + 9, none⟩ = some (.int .i64 x.whom) ∧ w.cell? ⟨b, o + 10, none⟩ = some (.int .i64 x.upto) ∧ b < w.heap.size := by
  subst hl
  subst hx
  obtain ⟨A, hA, _, hlt, hc⟩ := h.elem 11 k hk (txsCs_length l) (by decide)
  obtain ⟨b, o, s⟩ := A
  have hs : s = none := by
    obtain ⟨u, _, hu⟩ := hc 0 (by decide)
    have := World.cell?_spot hu
    simpa [Addr.add] using this
  subst hs
  have key : ∀ j, j < 11 → ∀ u, (TxS.cs l[k])[j]? = some u → w.cell? ⟨b, o + j, none⟩ = some u := by
    intro j hj u hu
    obtain ⟨u', h1, h2⟩ := hc j hj
    unfold txsCs at h1
    rw [flatC_at TxS.cs 11 (fun _ => rfl) l k hk j hj, hu] at h1
    cases h1
    rw [Addr.add_lit] at h2
    exact h2
  have k0 := key 0 (by decide) _ rfl
  exact ⟨b, o, fun W => run_indexAt_at elTx hA hk W, k0, key 1 (by decide) _ rfl, key 2 (by decide) _ rfl, key 3 (by decide) _ rfl, key 4 (by decide) _ rfl, key 5 (by decide) _ rfl, key 6 (by decide) _ rfl, key 7 (by decide) _ rfl, key 8 (by decide) _ rfl, key 9 (by decide) _ rfl, key 10 (by decide) _ rfl, World.block_lt_of_cell? _ _ k0⟩

theorem within_any (n a b : Int) (w : World) : Calls Tryz.prog 24 #[.int .i64 n, .int .i64 a, .int .i64 b] w fun e w' => e = .returned (.bool (inQ3 n a b)) ∧ w = w' := by
  have HQ : Hid (inQ3 n a b = (decide (a ≤ n) && decide (n ≤ b))) := (by show _ = _; rfl)
  cases h1 : decide (a ≤ n)
  · have H1 := Lib.hid h1
    go_enter Tryz.func24, Tryz.ntmps24
    go_wp2
    go_ret
    exact ⟨ret_bool (by rw [HQ.out, H1.out]; rfl), rfl⟩
  · have H1 := Lib.hid h1
    cases h2 : decide (n ≤ b)
    all_goals
      have H2 := Lib.hid h2
      go_enter Tryz.func24, Tryz.ntmps24
      go_wp2
      go_ret
      exact ⟨ret_bool (by rw [HQ.out, H1.out, H2.out]; rfl), rfl⟩
theorem within_b {n a b : Int} {w : World} (r : Bool) (h : inQ3 n a b = r) : Calls Tryz.prog 24 #[.int .i64 n, .int .i64 a, .int .i64 b] w fun e w' => e = .returned (.bool r) ∧ w = w' := h ▸ within_any n a b w
theorem own_monoT {w : World} {B B' : Nat} {e : TypeId} {size : Nat} {v : Value} {n : Nat} {xs : List Value} (h : w.ownsRow B e size v n xs) (hB : B' ≤ B) : w.ownsRow B' e size v n xs := by
  refine ⟨h.1, ?_⟩
  rcases h.2 with hn | ⟨g, cap, cur, rfl, hbg, r⟩
  · exact .inl hn
  · exact .inr ⟨g, cap, cur, rfl, Nat.le_trans hB hbg, r⟩
/-- Does a vector have a transaction? -/
theorem hasD_b {v : Value} {l : List Int} {d q : Int} {w : World} (r : Bool) (hr : hasV l ⟨d, q⟩ = r) (h : Rd w v l.length (l.map ic)) :
    Calls Tryz.prog 38 #[v, .agg #[.int .i64 d, .int .i64 q]] w fun e w' => e = .returned (.bool r) ∧ Below w.heap.size w w' := hr ▸ hasV_any v l ⟨d, q⟩ w h
end Go.Proofs.YtnolbabpkhdpmaaGreat
/- Layer 20 (past): a map of transactions by their dots. -/
namespace Go.Proofs.YtnolbabpkhdpmaaGreat
open Go.RowKit Go.Sort Go.BigFrame Go.MapKept

/-- The last one of some transactions with a dot. -/
def findD (a b : Int) : List TxS → Option TxS
  | [] => none
  | x :: l => if a == x.dev && b == x.seq then some x else findD a b l
theorem findD_none {a b : Int} : ∀ {l : List TxS}, findD a b l = none ↔ ∀ x ∈ l, ¬ (a = x.dev ∧ b = x.seq)
  | [] => by simp [findD]
  | x :: l => by
    unfold findD
    by_cases h : a = x.dev ∧ b = x.seq
    · simp [h.1, h.2]
    · have h' : (a == x.dev && b == x.seq) = false := by
        cases hh : (a == x.dev && b == x.seq)
        · rfl
        · simp at hh; exact absurd hh h
      rw [h', if_neg (by simp), findD_none]
      exact ⟨fun hh y hy => by rcases List.mem_cons.1 hy with rfl | hy; exact h; exact hh y hy, fun hh y hy => hh y (List.mem_cons_of_mem _ hy)⟩
theorem findD_some {a b : Int} : ∀ {l : List TxS} {x : TxS}, findD a b l = some x → x ∈ l ∧ x.dev = a ∧ x.seq = b
  | [], x, h => by simp [findD] at h
  | y :: l, x, h => by
    unfold findD at h
    by_cases hq : (a == y.dev && b == y.seq) = true
    · rw [if_pos hq] at h
      cases h
      simp at hq
      exact ⟨List.mem_cons_self, hq.1.symm, hq.2.symm⟩
    · rw [if_neg hq] at h
      have := findD_some h
      exact ⟨List.mem_cons_of_mem _ this.1, this.2⟩
def dotV (a b : Int) : Value := .agg #[.int .i64 a, .int .i64 b]

theorem run_checkDot (e : Bool) (a b : Int) (W : World) : (Instr.checkKey e 10000 51 (.agg #[.int .i64 a, .int .i64 b])).run Tryz.prog W = .ok () W := by kernel_rfl
theorem run_eqDot (a b c d : Int) (W : World) : (Op.equal 51 (.agg #[.int .i64 a, .int .i64 b]) (.agg #[.int .i64 c, .int .i64 d])).run Tryz.prog W = .ok (a == c && b == d) W := by
  have u3 := Tryz.underlying3
  have a3 := Tryz.isAgg3
  have z3 := Tryz.sizeOf3
  have hS : Tryz.prog.underlying 51 = some (.struct (Tryz.prog.fieldsOf 51)) := by kernel_rfl
  have hp : Tryz.prog.stoodInHeld 51 = false := by kernel_rfl
  unfold Op.equal Op.maxDepth
  rw [show (10000 : Nat) = 9999 + 1 from rfl, run_equalIn_agg W 9999 51 _ _ hS hp]
  simp only [Program.fieldsOf, Tryz.underlying51]
  go_simp
  by_cases h1 : a = c <;> by_cases h2 : b = d <;> simp [h1, h2]
theorem run_findAsking {a b : Int} (W : World) : ∀ (es : List MapEntry) (l : List TxS) (i : Nat), es.map MapEntry.key = l.map (fun x => .agg #[.int .i64 x.dev, .int .i64 x.seq]) → es.map MapEntry.val = l.map TxS.agg →
    ∃ j, (Instr.findAsking 51 (.agg #[.int .i64 a, .int .i64 b]) es i).run Tryz.prog W = .ok ((findD a b l).map fun x => (j, x.agg)) W
  | [], [], i, _, _ => ⟨0, by simp [Instr.findAsking, findD]⟩
  | [], _ :: _, _, h, _ => nomatch h
  | _ :: _, [], _, h, _ => nomatch h
  | e :: es, x :: l, i, h, hv => by
    simp only [List.map_cons, List.cons.injEq] at h hv
    unfold Instr.findAsking findD
    rw [Sem.run_bind, h.1, run_eqDot]
    cases hq : (a == x.dev && b == x.seq)
    · simp only [Result.andThen_ok, Bool.false_eq_true, if_false]
      exact run_findAsking W es l (i + 1) h.2 hv.2
    · exact ⟨i, by simp [hv.1]⟩
theorem findNow_dot {a b : Int} {d : TypeDesc} (hd : ∀ c e, Instr.sameNow d (.agg #[.int .i64 a, .int .i64 b]) (.agg #[.int .i64 c, .int .i64 e]) = none) (e : MapEntry) (es : List MapEntry) (i : Nat) (c f : Int) (hk : e.key = .agg #[.int .i64 c, .int .i64 f]) : Instr.findNow d (.agg #[.int .i64 a, .int .i64 b]) (e :: es) i = none := by
  unfold Instr.findNow
  rw [hk, hd]
theorem run_findDot {a b : Int} (W : World) (es : List MapEntry) (l : List TxS) (h : es.map MapEntry.key = l.map (fun x => .agg #[.int .i64 x.dev, .int .i64 x.seq])) (hv : es.map MapEntry.val = l.map TxS.agg) :
    ∃ j, (Instr.findKey 51 (.agg #[.int .i64 a, .int .i64 b]) es).run Tryz.prog W = .ok ((findD a b l).map fun x => (j, x.agg)) W := by
  obtain ⟨d, hd⟩ : ∃ d, Tryz.prog.underlying 51 = some d := ⟨_, Tryz.underlying51⟩
  have hs : ∀ c e, Instr.sameNow d (.agg #[.int .i64 a, .int .i64 b]) (.agg #[.int .i64 c, .int .i64 e]) = none := by
    have := Tryz.underlying51
    rw [hd] at this
    cases this
    intro c e
    rfl
  unfold Instr.findKey
  rw [Sem.run_bind, run_underlying hd, Result.andThen_ok]
  match es, l, h, hv with
  | [], [], _, _ => exact ⟨0, by simp [Instr.findNow, findD]⟩
  | [], _ :: _, h, _ => exact nomatch h
  | _ :: _, [], h, _ => exact nomatch h
  | e :: es, x :: l, h, hv =>
    rw [findNow_dot hs e es 0 x.dev x.seq (by simp only [List.map_cons, List.cons.injEq] at h; exact h.1)]
    exact run_findAsking W (e :: es) (x :: l) 0 h hv
/-- A new map at g that has each of l by its dot. -/
def DM (g : Nat) (w : World) (l : List TxS) : Prop :=
  ∃ es ck, w.heap[g]? = some (.map es ck) ∧ es.toList.map MapEntry.key = l.map (fun x => .agg #[.int .i64 x.dev, .int .i64 x.seq]) ∧ es.toList.map MapEntry.val = l.map TxS.agg
theorem dm_new (w : World) : DM w.heap.size (w.alloc (.map #[] 0)) [] := ⟨#[], 0, (heap_alloc w _).1, rfl, rfl⟩
theorem DM.lt {g : Nat} {w : World} {l : List TxS} (h : DM g w l) : g < w.heap.size := by
  obtain ⟨es, ck, h2, _⟩ := h
  exact (Array.getElem?_eq_some_iff.1 h2).1
theorem DM.later {g : Nat} {w w' : World} {l : List TxS} (h : DM g w l) (hb : Below w.heap.size w w') : DM g w' l := by
  obtain ⟨es, ck, h2, h3⟩ := h
  exact ⟨es, ck, (hb.block _ (Array.getElem?_eq_some_iff.1 h2).1).trans h2, h3⟩
theorem DM.step {g : Nat} {w : World} {l : List TxS} (h : DM g w l) (x : TxS) (hx : findD x.dev x.seq l = none) :
    ∃ W', (Instr.mapUpdate 46 (.map (some g)) (.agg #[.int .i64 x.dev, .int .i64 x.seq]) x.agg).run Tryz.prog w = .ok () W' ∧ DM g W' (l ++ [x]) ∧ But (fun k => k = g) w W' := by
  obtain ⟨es, ck, h2, h3, h4⟩ := h
  have hu : Tryz.prog.underlying 46 = some (.map 51 31) := Tryz.underlying46
  obtain ⟨j, hf⟩ := run_findDot (a := x.dev) (b := x.seq) w es.toList l h3 h4
  rw [hx] at hf
  refine ⟨{ w with heap := w.heap.setIfInBounds g (.map (es.push ⟨.agg #[.int .i64 x.dev, .int .i64 x.seq], x.agg, ck⟩) (ck + 1)) }, ?_, ?_, ⟨rfl, rfl, rfl, by simp, fun j hj hne => (heap_set h2).2 j hne⟩⟩
  · simp only [Instr.mapUpdate, Sem.run_bind, run_underlying hu, Go.MapKept.run_getObj_map h2, run_checkDot, hf, Option.map_none, Go.MapKept.run_setObj_map _ h2, Result.andThen]
  · exact ⟨es.push ⟨.agg #[.int .i64 x.dev, .int .i64 x.seq], x.agg, ck⟩, ck + 1, (heap_set h2).1, by simp [h3], by simp [h4]⟩
def zeroTx : Value := .agg #[.int .i64 0, .int .i64 0, .int .i64 0, .slice none 0 0, .slice none 0 0, .slice none 0 0, .bool false, .slice none 0 0, .int .i64 0, .int .i64 0, .int .i64 0]
theorem DM.look {g : Nat} {w : World} {l : List TxS} (h : DM g w l) (a b : Int) {r : Option TxS} (hr : findD a b l = r) :
    (Instr.lookup 46 (.map (some g)) (.agg #[.int .i64 a, .int .i64 b]) true).run Tryz.prog w = .ok (.tuple #[(r.map TxS.agg).getD zeroTx, .bool r.isSome]) w := by
  obtain ⟨es, ck, h2, h3, h4⟩ := h
  have hu : Tryz.prog.underlying 46 = some (.map 51 31) := Tryz.underlying46
  have hz : (zeroValue 31).run Tryz.prog w = .ok zeroTx w := by kernel_rfl
  obtain ⟨j, hf⟩ := run_findDot (a := a) (b := b) w es.toList l h3 h4
  rw [hr] at hf
  cases r with
  | none => simp [Instr.lookup, run_underlying hu, Go.MapKept.run_getObj_map h2, run_checkDot, hf, hz, Result.andThen]
  | some x => simp [Instr.lookup, run_underlying hu, Go.MapKept.run_getObj_map h2, run_checkDot, hf, Result.andThen]
end Go.Proofs.YtnolbabpkhdpmaaGreat
/- Rows of elements of k cells: what is laid over a stretch of a row; clear; the row as a slice that is read. -/
namespace Go.Proofs.YtnolbabpkhdpmaaGreat
open Go.RowKit Go.Sort Go.BigFrame

theorem setMany_list : ∀ (vs : List Value) (F : Array Value) (A B C : List Value), F.toList = A ++ (B ++ C) → B.length = vs.length → (setMany F A.length vs).toList = A ++ (vs ++ C)
  | [], F, A, B, C, h, hl => by
    obtain rfl : B = [] := List.length_eq_zero_iff.1 hl
    exact h
  | v :: r, F, A, B, C, h, hl => by
    match B, hl with
    | b :: B', hl =>
      have h1 : (F.setIfInBounds A.length v).toList = (A ++ [v]) ++ (B' ++ C) := by
        rw [Array.toList_setIfInBounds, h]
        simp
      have := setMany_list r _ (A ++ [v]) B' C h1 (by simpa using hl)
      rw [List.length_append] at this
      simpa [setMany] using this
theorem flatK_list {α : Type} [Inhabited α] {enc : α → List Value} {k : Nat} (hk : ∀ x, (enc x).length = k) (l : List α) : (flatK enc k l.toArray).toList = l.flatMap enc := by
  have hlen : (l.flatMap enc).length = l.length * k := flatC_length enc k hk l
  refine List.ext_getElem (by simp [hlen]) fun t h1 h2 => ?_
  have ht : t < l.length * k := by rw [hlen] at h2; exact h2
  have k0 : 0 < k := by rcases Nat.eq_zero_or_pos k with h | h; · subst h; simp at ht
                        · exact h
  have hq : t / k < l.length := Nat.div_lt_of_lt_mul (by rw [Nat.mul_comm]; exact ht)
  have hm : t % k < k := Nat.mod_lt _ k0
  have hf := get_flatK enc k l.toArray t (by simpa using ht)
  have hg := flatC_at enc k hk l (t / k) hq (t % k) hm
  rw [show t / k * k + t % k = t from Nat.div_add_mod' t k, List.getElem?_eq_getElem h2, List.getElem?_eq_getElem (by rw [hk]; exact hm)] at hg
  have h3 : t < (flatK enc k l.toArray).size := by simpa using ht
  rw [getElem!_pos _ t h3, getElem!_pos l.toArray (t / k) (by simpa using hq)] at hf
  rw [Array.getElem_toList, hf, getElem!_pos _ _ (by rw [hk]; exact hm)]
  have := Option.some.inj hg
  rw [this]
  simp
section
variable {α : Type} [Inhabited α] {enc : α → List Value} {k : Nat} {w0 : World} {blk off n : Nat} {l0 : List α}
/-- Elements laid over a stretch of the row. -/
theorem SB.laid {P X S Y : List α} {W : World} (h : SB enc k w0 blk off (P ++ (X ++ S)) W) (R : Rw enc k w0 blk off n l0) (hxy : X.length = Y.length) {i : Nat} (hi : i = P.length) :
    SB enc k w0 blk off (P ++ (Y ++ S)) (W.setCells blk (off + i * k) (Y.flatMap enc)) := by
  have hl : ∀ l : List α, (l.flatMap enc).length = l.length * k := flatC_length enc k R.hk
  have hF : (flatK enc k (P ++ (X ++ S)).toArray).toList = P.flatMap enc ++ (X.flatMap enc ++ S.flatMap enc) := by
    rw [flatK_list R.hk]; simp [List.flatMap_append]
  have hset := setMany_list (Y.flatMap enc) _ _ _ _ hF (by rw [hl, hl, hxy])
  rw [hl] at hset
  have hp : putRowK enc k w0 blk off (P ++ (Y ++ S)).toArray = (putRowK enc k w0 blk off (P ++ (X ++ S)).toArray).setCells blk (off + i * k) (Y.flatMap enc) := by
    unfold putRowK
    rw [setCells_putRow _ _ _ _ _ _ (by
      rw [hl, size_flatK, hi, ← Nat.add_mul]
      exact Nat.mul_le_mul_right k (by simp; omega))]
    congr 1
    apply Array.ext'
    rw [hi, hset, flatK_list R.hk]; simp [List.flatMap_append]
  unfold SB at h ⊢
  rw [hp]
  exact below_sets R.hblk _ _ h
/-- The row as a slice that reads so. -/
theorem SB.rdk {l : List α} {W : World} (h : SB enc k w0 blk off l W) (R : Rw enc k w0 blk off n l0) (hl : l.length = n) {cap : Nat} (hcap : n ≤ cap) (hcm : cap ≤ maxLen) : Rd W (.slice (some ⟨blk, off, none⟩) n cap) n (l.flatMap enc) := by
  refine ⟨_, _, rfl, hcap, hcm, (fun h => nomatch h), fun a ha => ?_⟩
  cases ha
  intro j u hj
  have hH := h.holds R hl
  have hjl : j < (flatK enc k l.toArray).size := by
    rw [size_flatK]
    have := List.getElem?_eq_some_iff.1 hj
    obtain ⟨h1, _⟩ := this
    rw [flatC_length enc k R.hk l] at h1
    simpa using h1
  have hc := (hH j hjl).1
  have hf : (flatK enc k l.toArray)[j]! = u := by
    rw [getElem!_pos _ j hjl]
    have h1 := flatK_list R.hk l
    have h2 : (flatK enc k l.toArray).toList[j]? = some u := by rw [h1]; exact hj
    rw [Array.getElem?_toList, Array.getElem?_eq_getElem hjl] at h2
    exact Option.some.inj h2
  have ha : (⟨blk, off, none⟩ : Addr).add j = ⟨blk, off + j, none⟩ := by simp [Addr.add]
  rw [ha, hc, hf]; rfl
end
theorem zeroCells_list (z : Array Value) (_ : 0 < z.size) : ∀ n, (Builtin.zeroCells z n).toList = (List.replicate n z.toList).flatten := by
  intro n
  unfold Builtin.zeroCells
  rw [Array.toList_map, Array.toList_range]
  induction n with
  | zero => simp
  | succ n ih =>
    rw [Nat.add_mul, Nat.one_mul, List.range_add, List.map_append, ih, List.replicate_succ', List.flatten_append]
    congr 1
    simp only [List.map_map, List.flatten_cons, List.flatten_nil, List.append_nil]
    refine List.ext_getElem (by simp) fun j h1 h2 => ?_
    have hj : j < z.size := by simpa using h1
    simp only [List.getElem_map, List.getElem_range, Function.comp]
    rw [Nat.mul_add_mod', Nat.mod_eq_of_lt hj, getElem!_pos z j hj, Array.getElem_toList]
theorem run_clear_k {P : Program} (w : World) (t e ty : TypeId) (z : Value) (zs : List Value) (ht : P.underlying t = some (.slice e)) (hv : ∀ w, (zeroValue e).run P w = .ok z w) (hz : z.cells.toList = zs) (hzs : 0 < zs.length) (h1 : ∀ u ∈ zs, u.oneCell' = true) (b o n c : Nat) (hn : 0 < n)
    (hc : ∀ j, j < n * zs.length → (w.cell? ⟨b, o + j, none⟩).isSome = true) (hf : ∀ j, j < n * zs.length → w.frozen? ⟨b, o + j, none⟩ = false) :
    (Builtin.clear_ #[t] ty #[.slice (some ⟨b, o, none⟩) n c]).run P w = .ok (.tuple #[]) (w.setCells b o (List.replicate n zs).flatten) := by
  have hzc : (Builtin.zeroCells z.cells n).toList = (List.replicate n zs).flatten := by
    rw [zeroCells_list _ (by rw [← Array.length_toList, hz]; exact hzs), hz]
  have hll : ((List.replicate n zs).flatten).length = n * zs.length := by simp
  have hst := run_storeCells_cells (P := P) b o (List.replicate n zs).flatten 0 w (by rw [hll]; simpa using hc) (by rw [hll]; simpa using hf) (by
    intro v hv'
    obtain ⟨l, hl, hvl⟩ := List.mem_flatten.1 hv'
    rw [List.eq_of_mem_replicate hl] at hvl
    exact h1 v hvl)
  simp only [Nat.add_zero] at hst
  obtain ⟨m, rfl⟩ : ∃ m, n = m + 1 := ⟨n - 1, by omega⟩
  simp [Builtin.clear_, run_underlying ht, hv, hzc, hst]
end Go.Proofs.YtnolbabpkhdpmaaGreat
/- Layer 20 (past): Time. (printed by tools/gen_ya.py) -/
namespace Go.Proofs.YtnolbabpkhdpmaaGreat
open Go.RowKit Go.Sort Go.BigFrame
attribute [local irreducible] FlowW

def timeF (deps : List Int) (n : Int) (x : TxS) : Int := if hasV deps x.dot then max n x.time else n
/-- The greatest time that a transaction stands on. -/
def timeT (line : List Int) (last : Int) (l : List TxS) (deps : List Int) : Int := l.foldl (timeF deps) (if uptoB line deps then max 0 last else 0)
theorem foldl_next {α β : Type} (f : β → α → β) (s : β) {l : List α} {k : Nat} (hk : k < l.length) {x : α} (hx : l[k] = x) : (l.take (k + 1)).foldl f s = f ((l.take k).foldl f s) x := by
  rw [List.take_succ_eq_append_getElem hk, List.foldl_append, hx]; rfl
set_option maxRecDepth 100000 in
set_option maxHeartbeats 8000000 in
theorem time_any {dev seq time note whom upto : Int} {fm : Bool} {ad ao ae ah : Option Addr} {nd cd no co ne ce nh ch : Nat} {line deps : List Int} {last : Int} {vl vv : Value} {l : List TxS} (w : World) (hv : Rd w vv line.length (line.map ic)) (hl : LRd w vl l) (hd : Rd w (.slice ad nd cd) deps.length (deps.map ic)) :
    Calls Tryz.prog 13 #[vv, .int .i64 last, vl, .agg #[.int .i64 dev, .int .i64 seq, .int .i64 time, .slice ad nd cd, .slice ao no co, .slice ae ne ce, .bool fm, .slice ah nh ch, .int .i64 note, .int .i64 whom, .int .i64 upto]] w fun e w' => e = .returned (.int .i64 (timeT line last l deps)) ∧ Below w.heap.size w w' := by
  obtain ⟨la, lc, rfl, hnc, hcm, -, -⟩ := id hl.1
  unfold maxLen at hcm
  obtain ⟨n, hln⟩ : ∃ n, l.length = n := ⟨_, rfl⟩
  have HL := Lib.hid hl
  have HLN := Lib.hid hln
  have HD := Lib.hid hd
  have HV := Lib.hid hv
  rw [hln] at hnc ⊢
  obtain ⟨w1, hw1⟩ : ∃ w1, w.alloc (.cells #[.int .i64 dev, .int .i64 seq, .int .i64 time, .slice ad nd cd, .slice ao no co, .slice ae ne ce, .bool fm, .slice ah nh ch, .int .i64 note, .int .i64 whom, .int .i64 upto] 31) = w1 := ⟨_, rfl⟩
  have hbw1 : Below w.heap.size w w1 := by rw [← hw1]; exact below_alloc _ _
  have bw1 : Bx w1 w.heap.size #[.int .i64 dev, .int .i64 seq, .int .i64 time, .slice ad nd cd, .slice ao no co, .slice ae ne ce, .bool fm, .slice ah nh ch, .int .i64 note, .int .i64 whom, .int .i64 upto] 31 := by rw [← hw1]; exact bx_new rfl
  have Hw1 := Lib.hid hw1
  have HX := Lib.hid bw1
  have HB1 := Lib.hid hbw1
  clear hw1 hbw1 bw1 hl hln hd hv
  go_enter Tryz.func13, Tryz.ntmps13
  go_upto_region 1 with fail
  rw [Hw1.out]
  have p3 := cell_of_box HX.out 3 rfl
  go_wp2_with fail
  refine (vUpto_any _ _ line deps _ (HV.out.later HB1.out) (HD.out.later HB1.out)).mono ?_
  rintro e w2 ⟨rfl, rfl⟩
  cases hu : uptoB line deps
  · have HT0 : Hid (timeT line last l deps = l.foldl (timeF deps) 0) := by show _ = _; unfold timeT; rw [hu]; rfl
    clear hu
    obtain ⟨S, hS⟩ : ∃ S : Int, S = 0 := ⟨_, rfl⟩
    rw [← hS] at HT0
    go_wp2_with fail
    clear p3
    go_loopw [9, 21] (fun va vi wr => ∃ (k : Nat) (m : Int), k ≤ n ∧ va = .int .i64 m ∧ vi = .int .i64 k ∧ Hid (m = (l.take k).foldl (timeF deps) S) ∧ Hid (Below w1.heap.size w1 wr)) (fun _ vi _ => n - (intOf vi).toNat)
    case atStart => exact ⟨0, S, Nat.zero_le _, by rw [hS], rfl, rfl, Below.refl _ _⟩
    case round =>
      obtain ⟨k, m, hk, rfl, rfl, hm, HB⟩ := hrel
      rename World => wr
      by_cases hlt : k < n
      · have hkl : k < l.length := by have := HLN.out; omega
        have hk2 : (k : Int) < (n : Int) := by omega
        obtain ⟨x, hx⟩ : ∃ x, l[k] = x := ⟨_, rfl⟩
        obtain ⟨b, oo, x1, c0, c1, c2, c3, c4, c5, c6, c7, c8, c9, c10, _⟩ := rd_txs ((HL.out.later (below_then HB1.out HB.out)).1) rfl k hkl hx
        rw [HLN.out] at x1
        have hnx : (l.take (k + 1)).foldl (timeF deps) S = timeF deps m x := by rw [foldl_next _ _ hkl hx, ← hm.out]
        have HNX := Lib.hid hnx
        clear hnx hx
        obtain ⟨r, hr⟩ : ∃ r, hasV deps ⟨x.dev, x.seq⟩ = r := ⟨_, rfl⟩
        have HR := Lib.hid hr
        clear hr
        obtain ⟨w3, hw3⟩ : ∃ w3, wr.alloc (.cells #[.int .i64 x.dev, .int .i64 x.seq, .int .i64 x.time, .slice x.ad x.nd x.cd, .slice x.ao x.no x.co, .slice x.ae x.ne x.ce, .bool x.fm, .slice x.ah x.nh x.ch, .int .i64 x.note, .int .i64 x.whom, .int .i64 x.upto] 31) = w3 := ⟨_, rfl⟩
        have hbw3 : Below wr.heap.size wr w3 := by rw [← hw3]; exact below_alloc _ _
        have bw3 : Bx w3 wr.heap.size #[.int .i64 x.dev, .int .i64 x.seq, .int .i64 x.time, .slice x.ad x.nd x.cd, .slice x.ao x.no x.co, .slice x.ae x.ne x.ce, .bool x.fm, .slice x.ah x.nh x.ch, .int .i64 x.note, .int .i64 x.whom, .int .i64 x.upto] 31 := by rw [← hw3]; exact bx_new rfl
        have Hw3 := Lib.hid hw3
        have HQ := Lib.hid bw3
        have HB3 := Lib.hid (below_then HB.out hbw3)
        clear hw3 hbw3 bw3
        go_upto_region 7 with fail
        rw [Hw3.out]
        clear c0 c1 c2 c3 c4 c5 c6 c7 c8 c9 c10 x1
        have p3 := cell_of_box (bx_later HB3.out HX.out) 3 rfl
        have q0 := cell_of_box HQ.out 0 rfl
        have q1 := cell_of_box HQ.out 1 rfl
        have q2 := cell_of_box HQ.out 2 rfl
        have q3 := cell_of_box HQ.out 3 rfl
        have q4 := cell_of_box HQ.out 4 rfl
        have q5 := cell_of_box HQ.out 5 rfl
        have q6 := cell_of_box HQ.out 6 rfl
        have q7 := cell_of_box HQ.out 7 rfl
        have q8 := cell_of_box HQ.out 8 rfl
        have q9 := cell_of_box HQ.out 9 rfl
        have q10 := cell_of_box HQ.out 10 rfl
        refine wp_region_flow (by kernel_rfl) 5 [(3, ⟨fun v => v = .agg #[.int .i64 x.dev, .int .i64 x.seq], fun _ _ _ _ => True⟩), (4, ⟨fun v => v = .bool r, fun _ _ _ _ => True⟩)] (by kernel_rfl) ?_ ?_ ?_
        · intro x hx
          simp only [List.mem_cons, List.not_mem_nil, or_false] at hx
          rcases hx with rfl | rfl
          · exact ⟨_, rfl⟩
          · exact ⟨_, rfl⟩
        · intro x hx v lo hi w w' h hb
          simp only [List.mem_cons, List.not_mem_nil, or_false] at hx
          rcases hx with rfl | rfl
          · exact trivial
          · exact trivial
        · intro lo hi
          have kp3 := cell_regrown p3
          have kq0 := cell_regrown q0
          have kq1 := cell_regrown q1
          have kq2 := cell_regrown q2
          have kq3 := cell_regrown q3
          have kq4 := cell_regrown q4
          have kq5 := cell_regrown q5
          have kq6 := cell_regrown q6
          have kq7 := cell_regrown q7
          have kq8 := cell_regrown q8
          have kq9 := cell_regrown q9
          have kq10 := cell_regrown q10
          refine flowW_plain rfl ?_
          go_big_quiet_step (fail)
          refine wpQuiet_nil ?_
          refine flowW_plain rfl ?_
          go_big_quiet_step (fail)
          refine wpQuiet_nil ?_
          refine flowW_plain rfl ?_
          go_big_quiet_step (fail)
          refine wpQuiet_nil ?_
          refine flowW_call rfl rfl ?_ ?_
          · intro W hW hF K hK
            clear kp3 kq0 kq1 kq2 kq3 kq4 kq5 kq6 kq7 kq8 kq9 kq10
            go_wp2_with fail
            refine (dot_any _).mono ?_
            rintro e wq ⟨rfl, hbq⟩
            go_wp2_with fail
            exact hK _ _ rfl trivial hbq
          rintro v rfl K hK
          go_simp
          refine hK _ ?_
          clear hK K
          refine flowW_call rfl rfl ?_ ?_
          · intro W hW hF K hK
            clear kp3 kq0 kq1 kq2 kq3 kq4 kq5 kq6 kq7 kq8 kq9 kq10
            go_wp2_with fail
            refine (hasD_b r HR.out (HD.out.later (below_then HB1.out (below_then HB3.out hW)))).mono ?_
            rintro e wq ⟨rfl, hbq⟩
            go_wp2_with fail
            exact hK _ _ rfl trivial hbq
          rintro v rfl K hK
          go_simp
          refine hK _ ?_
          clear hK K
          refine flowW_end fun w4 hw4 hF hD => ?_
          clear kp3 kq0 kq1 kq2 kq3 kq4 kq5 kq6 kq7 kq8 kq9 kq10
          simp only [List.drop_succ_cons, List.drop_zero]
          have HB4 := Lib.hid (below_then HB3.out hw4)
          have q2' := cell_later hw4 q2
          clear hw4 hF hD p3 q0 q1 q2 q3 q4 q5 q6 q7 q8 q9 q10
          cases r
          · have HT : Hid (timeF deps m x = m) := by show _ = _; unfold timeF TxS.dot; rw [HR.out]; rfl
            go_wp2_with fail
            go_roundw
            case rel => exact ⟨k + 1, m, by omega, by go_num, by go_num, (by show _ = _; rw [HNX.out, HT.out]), HB4.out⟩
            case measure => simp [intOf]; omega
          · have HT : Hid (timeF deps m x = max m x.time) := by show _ = _; unfold timeF TxS.dot; rw [HR.out]; rfl
            go_wp2_with fail
            go_roundw
            case rel => exact ⟨k + 1, max m x.time, by omega, by go_num, by go_num, (by show _ = _; rw [HNX.out, HT.out]), HB4.out⟩
            case measure => simp [intOf]; omega
      · have hkn : n = k := by omega
        subst hkn
        have hk2 : ¬ (n : Int) < (n : Int) := by omega
        have hend : m = l.foldl (timeF deps) S := by have := hm.out; rwa [List.take_of_length_le (by have := HLN.out; omega)] at this
        have HE := Lib.hid hend
        clear hend
        go_wp2_with fail
        go_ret
        exact ⟨ret_int (HE.out.trans HT0.out.symm), below_then HB1.out HB.out⟩
  · have HT0 : Hid (timeT line last l deps = l.foldl (timeF deps) (max 0 last)) := by show _ = _; unfold timeT; rw [hu]; rfl
    clear hu
    obtain ⟨S, hS⟩ : ∃ S : Int, max 0 last = S := ⟨_, rfl⟩
    rw [hS] at HT0
    go_wp2_with fail
    clear p3
    go_loopw [9, 21] (fun va vi wr => ∃ (k : Nat) (m : Int), k ≤ n ∧ va = .int .i64 m ∧ vi = .int .i64 k ∧ Hid (m = (l.take k).foldl (timeF deps) S) ∧ Hid (Below w1.heap.size w1 wr)) (fun _ vi _ => n - (intOf vi).toNat)
    case atStart => exact ⟨0, S, Nat.zero_le _, by go_num, rfl, rfl, Below.refl _ _⟩
    case round =>
      obtain ⟨k, m, hk, rfl, rfl, hm, HB⟩ := hrel
      rename World => wr
      by_cases hlt : k < n
      · have hkl : k < l.length := by have := HLN.out; omega
        have hk2 : (k : Int) < (n : Int) := by omega
        obtain ⟨x, hx⟩ : ∃ x, l[k] = x := ⟨_, rfl⟩
        obtain ⟨b, oo, x1, c0, c1, c2, c3, c4, c5, c6, c7, c8, c9, c10, _⟩ := rd_txs ((HL.out.later (below_then HB1.out HB.out)).1) rfl k hkl hx
        rw [HLN.out] at x1
        have hnx : (l.take (k + 1)).foldl (timeF deps) S = timeF deps m x := by rw [foldl_next _ _ hkl hx, ← hm.out]
        have HNX := Lib.hid hnx
        clear hnx hx
        obtain ⟨r, hr⟩ : ∃ r, hasV deps ⟨x.dev, x.seq⟩ = r := ⟨_, rfl⟩
        have HR := Lib.hid hr
        clear hr
        obtain ⟨w3, hw3⟩ : ∃ w3, wr.alloc (.cells #[.int .i64 x.dev, .int .i64 x.seq, .int .i64 x.time, .slice x.ad x.nd x.cd, .slice x.ao x.no x.co, .slice x.ae x.ne x.ce, .bool x.fm, .slice x.ah x.nh x.ch, .int .i64 x.note, .int .i64 x.whom, .int .i64 x.upto] 31) = w3 := ⟨_, rfl⟩
        have hbw3 : Below wr.heap.size wr w3 := by rw [← hw3]; exact below_alloc _ _
        have bw3 : Bx w3 wr.heap.size #[.int .i64 x.dev, .int .i64 x.seq, .int .i64 x.time, .slice x.ad x.nd x.cd, .slice x.ao x.no x.co, .slice x.ae x.ne x.ce, .bool x.fm, .slice x.ah x.nh x.ch, .int .i64 x.note, .int .i64 x.whom, .int .i64 x.upto] 31 := by rw [← hw3]; exact bx_new rfl
        have Hw3 := Lib.hid hw3
        have HQ := Lib.hid bw3
        have HB3 := Lib.hid (below_then HB.out hbw3)
        clear hw3 hbw3 bw3
        go_upto_region 7 with fail
        rw [Hw3.out]
        clear c0 c1 c2 c3 c4 c5 c6 c7 c8 c9 c10 x1
        have p3 := cell_of_box (bx_later HB3.out HX.out) 3 rfl
        have q0 := cell_of_box HQ.out 0 rfl
        have q1 := cell_of_box HQ.out 1 rfl
        have q2 := cell_of_box HQ.out 2 rfl
        have q3 := cell_of_box HQ.out 3 rfl
        have q4 := cell_of_box HQ.out 4 rfl
        have q5 := cell_of_box HQ.out 5 rfl
        have q6 := cell_of_box HQ.out 6 rfl
        have q7 := cell_of_box HQ.out 7 rfl
        have q8 := cell_of_box HQ.out 8 rfl
        have q9 := cell_of_box HQ.out 9 rfl
        have q10 := cell_of_box HQ.out 10 rfl
        refine wp_region_flow (by kernel_rfl) 5 [(3, ⟨fun v => v = .agg #[.int .i64 x.dev, .int .i64 x.seq], fun _ _ _ _ => True⟩), (4, ⟨fun v => v = .bool r, fun _ _ _ _ => True⟩)] (by kernel_rfl) ?_ ?_ ?_
        · intro x hx
          simp only [List.mem_cons, List.not_mem_nil, or_false] at hx
          rcases hx with rfl | rfl
          · exact ⟨_, rfl⟩
          · exact ⟨_, rfl⟩
        · intro x hx v lo hi w w' h hb
          simp only [List.mem_cons, List.not_mem_nil, or_false] at hx
          rcases hx with rfl | rfl
          · exact trivial
          · exact trivial
        · intro lo hi
          have kp3 := cell_regrown p3
          have kq0 := cell_regrown q0
          have kq1 := cell_regrown q1
          have kq2 := cell_regrown q2
          have kq3 := cell_regrown q3
          have kq4 := cell_regrown q4
          have kq5 := cell_regrown q5
          have kq6 := cell_regrown q6
          have kq7 := cell_regrown q7
          have kq8 := cell_regrown q8
          have kq9 := cell_regrown q9
          have kq10 := cell_regrown q10
          refine flowW_plain rfl ?_
          go_big_quiet_step (fail)
          refine wpQuiet_nil ?_
          refine flowW_plain rfl ?_
          go_big_quiet_step (fail)
          refine wpQuiet_nil ?_
          refine flowW_plain rfl ?_
          go_big_quiet_step (fail)
          refine wpQuiet_nil ?_
          refine flowW_call rfl rfl ?_ ?_
          · intro W hW hF K hK
            clear kp3 kq0 kq1 kq2 kq3 kq4 kq5 kq6 kq7 kq8 kq9 kq10
            go_wp2_with fail
            refine (dot_any _).mono ?_
            rintro e wq ⟨rfl, hbq⟩
            go_wp2_with fail
            exact hK _ _ rfl trivial hbq
          rintro v rfl K hK
          go_simp
          refine hK _ ?_
          clear hK K
          refine flowW_call rfl rfl ?_ ?_
          · intro W hW hF K hK
            clear kp3 kq0 kq1 kq2 kq3 kq4 kq5 kq6 kq7 kq8 kq9 kq10
            go_wp2_with fail
            refine (hasD_b r HR.out (HD.out.later (below_then HB1.out (below_then HB3.out hW)))).mono ?_
            rintro e wq ⟨rfl, hbq⟩
            go_wp2_with fail
            exact hK _ _ rfl trivial hbq
          rintro v rfl K hK
          go_simp
          refine hK _ ?_
          clear hK K
          refine flowW_end fun w4 hw4 hF hD => ?_
          clear kp3 kq0 kq1 kq2 kq3 kq4 kq5 kq6 kq7 kq8 kq9 kq10
          simp only [List.drop_succ_cons, List.drop_zero]
          have HB4 := Lib.hid (below_then HB3.out hw4)
          have q2' := cell_later hw4 q2
          clear hw4 hF hD p3 q0 q1 q2 q3 q4 q5 q6 q7 q8 q9 q10
          cases r
          · have HT : Hid (timeF deps m x = m) := by show _ = _; unfold timeF TxS.dot; rw [HR.out]; rfl
            go_wp2_with fail
            go_roundw
            case rel => exact ⟨k + 1, m, by omega, by go_num, by go_num, (by show _ = _; rw [HNX.out, HT.out]), HB4.out⟩
            case measure => simp [intOf]; omega
          · have HT : Hid (timeF deps m x = max m x.time) := by show _ = _; unfold timeF TxS.dot; rw [HR.out]; rfl
            go_wp2_with fail
            go_roundw
            case rel => exact ⟨k + 1, max m x.time, by omega, by go_num, by go_num, (by show _ = _; rw [HNX.out, HT.out]), HB4.out⟩
            case measure => simp [intOf]; omega
      · have hkn : n = k := by omega
        subst hkn
        have hk2 : ¬ (n : Int) < (n : Int) := by omega
        have hend : m = l.foldl (timeF deps) S := by have := hm.out; rwa [List.take_of_length_le (by have := HLN.out; omega)] at this
        have HE := Lib.hid hend
        clear hend
        go_wp2_with fail
        go_ret
        exact ⟨ret_int (HE.out.trans HT0.out.symm), below_then HB1.out HB.out⟩
end Go.Proofs.YtnolbabpkhdpmaaGreat
/- Layer 20 (past): Order. (printed by tools/gen_yo.py) -/
namespace Go.Proofs.YtnolbabpkhdpmaaGreat
open Go.RowKit Go.Sort Go.BigFrame
attribute [local irreducible] FlowW

/-- Transactions as they are done. -/
def ordT (l : List TxS) : List TxS := (orderL (l.map TxS.st)).map fun i => l.getD i.toNat default
def OwnT (W : World) (B : Nat) (v : Value) (l : List TxS) : Prop := W.ownsRow B 31 11 v l.length (txsCs l)
def OrdP (w : World) (l : List TxS) (e : Ending) (w' : World) : Prop := ∃ v, e = .returned v ∧ OwnT w' w.heap.size v (ordT l) ∧ Below w.heap.size w w'
theorem orderL_mem {l : List Stp} {z : Int} (h : z ∈ orderL l) : 0 ≤ z ∧ z < l.length := by
  have := (isortL_perm (lt := ltC (cmpAt l)) (upto l.length)).mem_iff.1 h
  exact upto_mem this
theorem ordT_length (l : List TxS) : (ordT l).length = l.length := by unfold ordT; rw [List.length_map, orderL_length, List.length_map]
theorem ordT_mem {l : List TxS} {x : TxS} (h : x ∈ ordT l) : x ∈ l := by
  obtain ⟨z, hz, rfl⟩ := List.mem_map.1 h
  have := orderL_mem hz
  rw [List.length_map] at this
  rw [List.getD_eq_getElem?_getD, List.getElem?_eq_getElem (by omega)]
  exact List.getElem_mem _
theorem stCs_snocT (l : List Stp) (x : Stp) : stCs (l ++ [x]) = stCs l ++ x.cs := by unfold stCs; rw [List.flatMap_append]; simp
theorem LRd.of_own {W : World} {B : Nat} {v : Value} {l : List TxS} (h : OwnT W B v l) (hr : ∀ t ∈ l, t.Reads W) : LRd W v l := ⟨Rd.of_own h, hr⟩

set_option maxRecDepth 100000 in
set_option maxHeartbeats 8000000 in
theorem ordTx_any {vl : Value} {l : List TxS} (w : World) (hl : LRd w vl l) (hn : l.length ≤ 1000000) : Calls Tryz.prog 18 #[vl] w (OrdP w l) := by
  obtain ⟨la, lc, rfl, hnc, hcm, -, -⟩ := id hl.1
  unfold maxLen at hcm
  obtain ⟨n, hln⟩ : ∃ n, l.length = n := ⟨_, rfl⟩
  have HL := Lib.hid hl
  have HLN := Lib.hid hln
  rw [hln] at hnc hn ⊢
  clear hl hln
  go_enter Tryz.func18, Tryz.ntmps18
  go_wp2_with fail
  go_loopw [3, 11] (fun va vi wr => ∃ k : Nat, k ≤ n ∧ vi = .int .i64 k ∧ Hid (wr.ownsRow w.heap.size 83 3 va k (stCs ((l.take k).map TxS.st))) ∧ Hid (Below w.heap.size w wr)) (fun _ vi _ => n - (intOf vi).toNat)
  case atStart => exact ⟨0, Nat.zero_le _, by go_num, World.ownsRow_nil w _ _ _, Below.refl _ _⟩
  case round =>
    obtain ⟨k, hk, rfl, hown, HB⟩ := hrel
    rename World => wr
    by_cases hlt : k < n
    · have hkl : k < l.length := by have := HLN.out; omega
      have hk2 : (k : Int) < (n : Int) := by omega
      obtain ⟨x, hx⟩ : ∃ x, l[k] = x := ⟨_, rfl⟩
      obtain ⟨b, oo, x1, c0, c1, c2, c3, c4, c5, c6, c7, c8, c9, c10, _⟩ := rd_txs ((HL.out.later HB.out).1) rfl k hkl hx
      rw [HLN.out] at x1
      have hnx : stCs ((l.take (k + 1)).map TxS.st) = stCs ((l.take k).map TxS.st) ++ x.st.cs := by rw [List.take_succ_eq_append_getElem hkl, hx, List.map_append]; exact stCs_snocT _ _
      have HNX := Lib.hid hnx
      clear hnx hx
      obtain ⟨w3, hw3⟩ : ∃ w3, wr.alloc (.cells #[.int .i64 x.dev, .int .i64 x.seq, .int .i64 x.time, .slice x.ad x.nd x.cd, .slice x.ao x.no x.co, .slice x.ae x.ne x.ce, .bool x.fm, .slice x.ah x.nh x.ch, .int .i64 x.note, .int .i64 x.whom, .int .i64 x.upto] 31) = w3 := ⟨_, rfl⟩
      have hbw3 : Below wr.heap.size wr w3 := by rw [← hw3]; exact below_alloc _ _
      have bw3 : Bx w3 wr.heap.size #[.int .i64 x.dev, .int .i64 x.seq, .int .i64 x.time, .slice x.ad x.nd x.cd, .slice x.ao x.no x.co, .slice x.ae x.ne x.ce, .bool x.fm, .slice x.ah x.nh x.ch, .int .i64 x.note, .int .i64 x.whom, .int .i64 x.upto] 31 := by rw [← hw3]; exact bx_new rfl
      have Hw3 := Lib.hid hw3
      have HQ := Lib.hid bw3
      have HB3 := Lib.hid (below_then HB.out hbw3)
      have HO3 := Lib.hid (own_later hown.out hbw3)
      clear hw3 hbw3 bw3 hown
      go_upto_region 5 with fail
      rw [Hw3.out]
      clear c0 c1 c2 c3 c4 c5 c6 c7 c8 c9 c10 x1
      have q0 := cell_of_box HQ.out 0 rfl
      have q1 := cell_of_box HQ.out 1 rfl
      have q2 := cell_of_box HQ.out 2 rfl
      have q3 := cell_of_box HQ.out 3 rfl
      have q4 := cell_of_box HQ.out 4 rfl
      have q5 := cell_of_box HQ.out 5 rfl
      have q6 := cell_of_box HQ.out 6 rfl
      have q7 := cell_of_box HQ.out 7 rfl
      have q8 := cell_of_box HQ.out 8 rfl
      have q9 := cell_of_box HQ.out 9 rfl
      have q10 := cell_of_box HQ.out 10 rfl
      go_wp2_with fail
      refine (stamp_any _).mono ?_
      rintro e w4 ⟨rfl, hb4⟩
      have HB4 := Lib.hid (below_then HB3.out hb4)
      have hown4 := own_later HO3.out hb4
      have hbs := HB4.out.size
      clear hb4 q0 q1 q2 q3 q4 q5 q6 q7 q8 q9 q10
      go_wp2_with (at_builtin; refine wpList_push elSt rfl _ _ rfl rfl rfl hown4 rfl rfl (by unfold maxLen; omega) (by omega) hbs ?_; intro v5 w5 hown5 hgrow5 hblk5)
      have HB5 := Lib.hid (below_own HB4.out hown4 (Nat.le_refl _) hgrow5)
      have HO5 : Hid (w5.ownsRow w.heap.size 83 3 v5 (k + 1) (stCs ((l.take (k + 1)).map TxS.st))) := by show World.ownsRow _ _ _ _ _ _ _; rw [HNX.out]; exact hown5
      clear hown4 hown5 hgrow5 hblk5
      go_wp2_with fail
      go_roundw
      case rel => exact ⟨k + 1, by omega, by go_num, HO5.out, HB5.out⟩
      case measure => simp [intOf]; omega
    · have hkn : n = k := by omega
      subst hkn
      have hk2 : ¬ (n : Int) < (n : Int) := by omega
      have hr := Rd.of_own hown.out
      have hst : (l.take n).map TxS.st = l.map TxS.st := by rw [List.take_of_length_le (by have := HLN.out; omega)]
      rw [hst] at hr
      have hsl : (l.map TxS.st).length = n := by rw [List.length_map]; exact HLN.out
      obtain ⟨sa, sc, rfl, _⟩ := id hr
      have HR := Lib.hid hr
      have HSL := Lib.hid hsl
      clear hr hst hsl hown
      go_wp2_with fail
      refine (order_any _ (l.map TxS.st) _ (HSL.out ▸ HR.out) (by rw [HSL.out]; exact hn)).mono ?_
      rintro e w2 ⟨ov, rfl, hov, hb2⟩
      rw [HSL.out] at hov
      obtain ⟨oa, oc, rfl, hoc, hom, -, -⟩ := id hov
      unfold maxLen at hom
      have HV := Lib.hid hov
      have HB2 := Lib.hid (below_then HB.out hb2)
      have HOL : Hid ((orderL (l.map TxS.st)).length = n) := (orderL_length _).trans HSL.out
      clear hov hb2 HR HB
      go_wp2_with fail
      go_loopw [6, 24] (fun va vi wq => ∃ k : Nat, k ≤ n ∧ vi = .int .i64 k ∧ Hid (wq.ownsRow w2.heap.size 31 11 va k (txsCs ((ordT l).take k))) ∧ Hid (Below w2.heap.size w2 wq)) (fun _ vi _ => n - (intOf vi).toNat)
      case atStart => exact ⟨0, Nat.zero_le _, by go_num, World.ownsRow_nil w2 _ _ _, Below.refl _ _⟩
      case round =>
        obtain ⟨k, hk, rfl, hown, HB⟩ := hrel
        rename World => wq
        by_cases hlt : k < n
        · have hkl : k < (orderL (l.map TxS.st)).length := by have := HOL.out; omega
          have hk3 : (k : Int) < (n : Int) := by omega
          obtain ⟨A, x1, c0, _⟩ := rd_one elInts ic (HV.out.later HB.out) HOL.out.symm k hkl
          obtain ⟨z, hz⟩ : ∃ z, (orderL (l.map TxS.st))[k] = z := ⟨_, rfl⟩
          have hzm := orderL_mem (hz ▸ List.getElem_mem hkl)
          rw [HSL.out] at hzm
          rw [hz] at c0
          obtain ⟨j, rfl⟩ : ∃ j : Nat, z = (j : Int) := ⟨z.toNat, by omega⟩
          have hjl : j < l.length := by have := HLN.out; omega
          obtain ⟨x, hx⟩ : ∃ x, l[j] = x := ⟨_, rfl⟩
          obtain ⟨b, oo, x2, d0, d1, d2, d3, d4, d5, d6, d7, d8, d9, d10, _⟩ := rd_txs ((HL.out.later (below_then HB2.out HB.out)).1) rfl j hjl hx
          rw [HLN.out] at x2
          have hnx : txsCs ((ordT l).take (k + 1)) = txsCs ((ordT l).take k) ++ x.cs := by
            rw [List.take_succ_eq_append_getElem (by rw [ordT_length]; have := HLN.out; omega), txsCs_snoc]
            congr 2
            simp only [ordT, List.getElem_map, hz]
            rw [List.getD_eq_getElem?_getD, List.getElem?_eq_getElem (by omega)]
            simp [hx]
          have HNX := Lib.hid hnx
          have hown4 := hown.out
          have hbs := HB.out.size
          have hj0 : (0 : Int) ≤ (j : Int) := by omega
          have hjn : (j : Int) < (n : Int) := by omega
          clear hnx hx hz hzm hown
          go_wp2_with (at_builtin; refine wpList_push (cs := #[.int .i64 x.dev, .int .i64 x.seq, .int .i64 x.time, .slice x.ad x.nd x.cd, .slice x.ao x.no x.co, .slice x.ae x.ne x.ce, .bool x.fm, .slice x.ah x.nh x.ch, .int .i64 x.note, .int .i64 x.whom, .int .i64 x.upto]) elTx rfl _ _ rfl rfl rfl hown4 rfl rfl (by unfold maxLen; omega) (by omega) hbs ?_; intro v5 w5 hown5 hgrow5 hblk5)
          have HB5 := Lib.hid (below_own HB.out hown4 (Nat.le_refl _) hgrow5)
          have HO5 : Hid (w5.ownsRow w2.heap.size 31 11 v5 (k + 1) (txsCs ((ordT l).take (k + 1)))) := by show World.ownsRow _ _ _ _ _ _ _; rw [HNX.out]; exact hown5
          clear hown4 hown5 hgrow5 hblk5 c0 x1 x2 d0 d1 d2 d3 d4 d5 d6 d7 d8 d9 d10
          go_wp2_with fail
          go_roundw
          case rel => exact ⟨k + 1, by omega, by go_num, HO5.out, HB5.out⟩
          case measure => simp [intOf]; omega
        · have hkn : n = k := by omega
          subst hkn
          have hk3 : ¬ (n : Int) < (n : Int) := by omega
          have hE := hown.out
          rw [List.take_of_length_le (by rw [ordT_length]; have := HLN.out; omega)] at hE
          have HE := Lib.hid hE
          clear hown hE
          go_wp2_with fail
          go_ret
          refine ⟨_, rfl, ?_, below_then HB2.out HB.out⟩
          unfold OwnT
          rw [ordT_length, HLN.out]
          exact own_monoT HE.out HB2.out.size
end Go.Proofs.YtnolbabpkhdpmaaGreat
