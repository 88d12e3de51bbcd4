/-
  Layer 17 (tx): the law's plain transaction; its bytes, and what they are read as.
-/
import Derived.Test.YtliokkoalkhpaaaWB
import Derived.Test.YtliokkoalkhpaaaUW
import Derived.Test.YtliokkoalkhpaaaUC
import Derived.Test.YtliokkoalkhpaaaLaw
namespace Go.Proofs.Ytliokkoalkhpaaa
section
open Go.RowKit Go.Sort Go.BigFrame

theorem rd_of_bx {w : World} {g : Nat} {cs : Array Value} {T : TypeId} (h : Bx w g cs T) (n : Nat) (hn : n ≤ maxLen) : Rd w (.slice (some ⟨g, 0, none⟩) n n) n cs.toList := by
  refine ⟨_, _, rfl, Nat.le_refl _, hn, (fun h => nomatch h), fun a ha => ?_⟩
  cases ha
  intro j u hj
  have h1 := cell_of_box h j (v := u) (by simpa using hj)
  rw [Addr.add_lit, Nat.zero_add]
  exact h1
set_option maxRecDepth 100000 in
set_option maxHeartbeats 4000000 in
theorem plain_any (w : World) : Calls Try.prog 28 #[] w fun e w' => ∃ (ad ao ar : Option Addr), e = .returned (.agg #[.int .i64 2, .int .i64 3, .int .i64 5, .slice ad 2 2, .slice ao 1 1, .slice none 0 0, .bool false, .slice none 0 0, .int .i64 0, .int .i64 0, .int .i64 0]) ∧ Below w.heap.size w w' ∧ Rd w' (.slice ad 2 2) 2 (([1, 2] : List Int).map ic) ∧ Rd w' (.slice ao 1 1) 1 ([op1 ar 1].flatMap OpM.cs) ∧ Rd w' (.slice ar 1 1) 1 (rowCs [v7]) := by
  go_enter Try.func28, Try.ntmps28
  go_wp2
  have hb : Below w.heap.size w ((((w.alloc (.cells #[.int .i64 2, .int .i64 3, .int .i64 5, .slice (some ⟨w.heap.size + 1, 0, none⟩) 2 2, .slice (some ⟨w.heap.size + 1 + 1 + 1, 0, none⟩) 1 1, .slice none 0 0, .bool false, .slice none 0 0, .int .i64 0, .int .i64 0, .int .i64 0] 27)).alloc (.cells #[.int .i64 1, .int .i64 2] 3)).alloc (.cells #[.int .i64 1, .int .i64 7, .string ⟨#[]⟩] 87)).alloc (.cells #[.int .i64 1, .int .i64 0, .int .i64 0, .int .i64 0, .slice (some ⟨w.heap.size + 1 + 1, 0, none⟩) 1 1, .int .i64 0, .int .i64 0, .string ⟨#[]⟩, .int .i64 0, .int .i64 0, .int .i64 0] 89)) := below_then (below_alloc _ _) (below_then (below_alloc _ _) (below_then (below_alloc _ _) (below_alloc _ _)))
  have h0 : Bx ((((w.alloc (.cells #[.int .i64 2, .int .i64 3, .int .i64 5, .slice (some ⟨w.heap.size + 1, 0, none⟩) 2 2, .slice (some ⟨w.heap.size + 1 + 1 + 1, 0, none⟩) 1 1, .slice none 0 0, .bool false, .slice none 0 0, .int .i64 0, .int .i64 0, .int .i64 0] 27)).alloc (.cells #[.int .i64 1, .int .i64 2] 3)).alloc (.cells #[.int .i64 1, .int .i64 7, .string ⟨#[]⟩] 87)).alloc (.cells #[.int .i64 1, .int .i64 0, .int .i64 0, .int .i64 0, .slice (some ⟨w.heap.size + 1 + 1, 0, none⟩) 1 1, .int .i64 0, .int .i64 0, .string ⟨#[]⟩, .int .i64 0, .int .i64 0, .int .i64 0] 89)) w.heap.size #[.int .i64 2, .int .i64 3, .int .i64 5, .slice (some ⟨w.heap.size + 1, 0, none⟩) 2 2, .slice (some ⟨w.heap.size + 1 + 1 + 1, 0, none⟩) 1 1, .slice none 0 0, .bool false, .slice none 0 0, .int .i64 0, .int .i64 0, .int .i64 0] 27 := bx_later (below_then (below_alloc _ _) (below_then (below_alloc _ _) (below_alloc _ _))) (bx_new rfl)
  have h1 : Bx ((((w.alloc (.cells #[.int .i64 2, .int .i64 3, .int .i64 5, .slice (some ⟨w.heap.size + 1, 0, none⟩) 2 2, .slice (some ⟨w.heap.size + 1 + 1 + 1, 0, none⟩) 1 1, .slice none 0 0, .bool false, .slice none 0 0, .int .i64 0, .int .i64 0, .int .i64 0] 27)).alloc (.cells #[.int .i64 1, .int .i64 2] 3)).alloc (.cells #[.int .i64 1, .int .i64 7, .string ⟨#[]⟩] 87)).alloc (.cells #[.int .i64 1, .int .i64 0, .int .i64 0, .int .i64 0, .slice (some ⟨w.heap.size + 1 + 1, 0, none⟩) 1 1, .int .i64 0, .int .i64 0, .string ⟨#[]⟩, .int .i64 0, .int .i64 0, .int .i64 0] 89)) (w.heap.size + 1) #[.int .i64 1, .int .i64 2] 3 := bx_later (below_then (below_alloc _ _) (below_alloc _ _)) (bx_new (by simp))
  have h2 : Bx ((((w.alloc (.cells #[.int .i64 2, .int .i64 3, .int .i64 5, .slice (some ⟨w.heap.size + 1, 0, none⟩) 2 2, .slice (some ⟨w.heap.size + 1 + 1 + 1, 0, none⟩) 1 1, .slice none 0 0, .bool false, .slice none 0 0, .int .i64 0, .int .i64 0, .int .i64 0] 27)).alloc (.cells #[.int .i64 1, .int .i64 2] 3)).alloc (.cells #[.int .i64 1, .int .i64 7, .string ⟨#[]⟩] 87)).alloc (.cells #[.int .i64 1, .int .i64 0, .int .i64 0, .int .i64 0, .slice (some ⟨w.heap.size + 1 + 1, 0, none⟩) 1 1, .int .i64 0, .int .i64 0, .string ⟨#[]⟩, .int .i64 0, .int .i64 0, .int .i64 0] 89)) (w.heap.size + 1 + 1) #[.int .i64 1, .int .i64 7, .string ⟨#[]⟩] 87 := bx_later (below_alloc _ _) (bx_new (by simp))
  have h3 : Bx ((((w.alloc (.cells #[.int .i64 2, .int .i64 3, .int .i64 5, .slice (some ⟨w.heap.size + 1, 0, none⟩) 2 2, .slice (some ⟨w.heap.size + 1 + 1 + 1, 0, none⟩) 1 1, .slice none 0 0, .bool false, .slice none 0 0, .int .i64 0, .int .i64 0, .int .i64 0] 27)).alloc (.cells #[.int .i64 1, .int .i64 2] 3)).alloc (.cells #[.int .i64 1, .int .i64 7, .string ⟨#[]⟩] 87)).alloc (.cells #[.int .i64 1, .int .i64 0, .int .i64 0, .int .i64 0, .slice (some ⟨w.heap.size + 1 + 1, 0, none⟩) 1 1, .int .i64 0, .int .i64 0, .string ⟨#[]⟩, .int .i64 0, .int .i64 0, .int .i64 0] 89)) (w.heap.size + 1 + 1 + 1) #[.int .i64 1, .int .i64 0, .int .i64 0, .int .i64 0, .slice (some ⟨w.heap.size + 1 + 1, 0, none⟩) 1 1, .int .i64 0, .int .i64 0, .string ⟨#[]⟩, .int .i64 0, .int .i64 0, .int .i64 0] 89 := bx_new (by simp)
  generalize (((w.alloc (.cells #[.int .i64 2, .int .i64 3, .int .i64 5, .slice (some ⟨w.heap.size + 1, 0, none⟩) 2 2, .slice (some ⟨w.heap.size + 1 + 1 + 1, 0, none⟩) 1 1, .slice none 0 0, .bool false, .slice none 0 0, .int .i64 0, .int .i64 0, .int .i64 0] 27)).alloc (.cells #[.int .i64 1, .int .i64 2] 3)).alloc (.cells #[.int .i64 1, .int .i64 7, .string ⟨#[]⟩] 87)).alloc (.cells #[.int .i64 1, .int .i64 0, .int .i64 0, .int .i64 0, .slice (some ⟨w.heap.size + 1 + 1, 0, none⟩) 1 1, .int .i64 0, .int .i64 0, .string ⟨#[]⟩, .int .i64 0, .int .i64 0, .int .i64 0] 89) = wz at hb h0 h1 h2 h3 ⊢
  have r0 := cell_of_box h0 0 rfl
  have r1 := cell_of_box h0 1 rfl
  have r2 := cell_of_box h0 2 rfl
  have r3 := cell_of_box h0 3 rfl
  have r4 := cell_of_box h0 4 rfl
  have r5 := cell_of_box h0 5 rfl
  have r6 := cell_of_box h0 6 rfl
  have r7 := cell_of_box h0 7 rfl
  have r8 := cell_of_box h0 8 rfl
  have r9 := cell_of_box h0 9 rfl
  have r10 := cell_of_box h0 10 rfl
  refine bodyPost_ret (v := .agg #[.int .i64 2, .int .i64 3, .int .i64 5, .slice (some ⟨w.heap.size + 1, 0, none⟩) 2 2, .slice (some ⟨w.heap.size + 1 + 1 + 1, 0, none⟩) 1 1, .slice none 0 0, .bool false, .slice none 0 0, .int .i64 0, .int .i64 0, .int .i64 0]) (by simp [results, Try.results28, go_sem, r0, r1, r2, r3, r4, r5, r6, r7, r8, r9, r10]) rfl ⟨_, _, some ⟨w.heap.size + 1 + 1, 0, none⟩, rfl, hb, rd_of_bx h1 2 (by decide), rd_of_bx h3 1 (by decide), rd_of_bx h2 1 (by decide)⟩
end

section
open Go.RowKit Go.Sort Go.BigFrame
attribute [local irreducible] FlowW

def opT1 : OpT := ⟨1, 0, 0, 0, [v7], ⟨0, 0, ⟨#[]⟩⟩, (0, 0), 0⟩
def plainT : TxT := ⟨2, 3, 5, [1, 2], [opT1], [], false, [], 0, 0, 0⟩
theorem opT1_ok : opT1.ok := ⟨by decide, ⟨by decide, by decide +kernel⟩, by decide +kernel⟩
theorem plainT_ok : plainT.ok := ⟨by decide, ⟨by decide, by decide⟩, by decide, ⟨by decide, fun o ho => by rw [List.mem_singleton.1 ho]; exact opT1_ok⟩, ⟨by decide, fun o ho => nomatch ho⟩, ⟨by decide, fun o ho => nomatch ho⟩⟩
theorem plainT_len : (bytesT plainT).length ≤ 1000000000 := by decide +kernel
theorem op1_fit (ar : Option Addr) (cr : Nat) : ∀ a ∈ [op1 ar cr], a.op.fit := fun a ha => by rw [List.mem_singleton.1 ha]; exact ⟨opT1_ok, by show (1 : Nat) ≤ 3000; decide⟩
theorem rd_nil0 (w : World) : Rd w (.slice none 0 0) 0 [] := ⟨none, 0, rfl, Nat.le_refl _, Nat.zero_le _, fun _ => rfl, fun _ ha => nomatch ha⟩
theorem ord_nil0 (w : World) : ORd w (.slice none 0 0) [] := ⟨rd_nil0 w, fun _ ha => nomatch ha⟩
theorem bytes_plain {ad ao ar : Option Addr} {w : World} (hd : Rd w (.slice ad 2 2) 2 (([1, 2] : List Int).map ic)) (ho : Rd w (.slice ao 1 1) 1 ([op1 ar 1].flatMap OpM.cs)) (hr : Rd w (.slice ar 1 1) 1 (rowCs [v7])) :
    Calls Try.prog 19 #[.agg #[.int .i64 2, .int .i64 3, .int .i64 5, .slice ad 2 2, .slice ao 1 1, .slice none 0 0, .bool false, .slice none 0 0, .int .i64 0, .int .i64 0, .int .i64 0]] w (OwnB w (bytesT plainT)) := by
  have h := bytesT_any (dev := 2) (seq := 3) (time := 5) (note := 0) (whom := 0) (upto := 0) false [1, 2] [op1 ar 1] [] [] (ad := ad) (nd := 2) (cd := 2) (ao := ao) (no := 1) (co := 1) (ae := none) (ne := 0) (ce := 0) (ah := none) (nh := 0) (ch := 0) w rfl rfl rfl rfl hd
    ⟨ho, fun a ha => by rw [List.mem_singleton.1 ha]; exact hr⟩ (ord_nil0 w) (rd_nil0 w) (by decide) (by decide) (by decide) (by decide) (op1_fit ar 1) (by decide) (fun a ha => nomatch ha) (by decide) (fun a ha => nomatch ha)
  rw [show trimL [1, 2] = [1, 2] from by decide +kernel] at h
  exact h
theorem bytes_first (w : World) : Calls Try.prog 19 #[.agg #[.int .i64 1, .int .i64 1, .int .i64 5, .slice none 0 0, .slice none 0 0, .slice none 0 0, .bool false, .slice none 0 0, .int .i64 0, .int .i64 0, .int .i64 0]] w (OwnB w [14, 2, 2, 10, 0, 0, 0, 0, 0, 0, 0, 0]) := by
  have h := bytesT_any (dev := 1) (seq := 1) (time := 5) (note := 0) (whom := 0) (upto := 0) false [] [] [] [] (ad := none) (nd := 0) (cd := 0) (ao := none) (no := 0) (co := 0) (ae := none) (ne := 0) (ce := 0) (ah := none) (nh := 0) (ch := 0) w rfl rfl rfl rfl (rd_nil0 w) (ord_nil0 w) (ord_nil0 w) (rd_nil0 w) (by decide) (by decide) (fun a ha => nomatch ha) (by decide) (fun a ha => nomatch ha) (by decide) (fun a ha => nomatch ha) (by decide) (fun a ha => nomatch ha)
  rw [show bytesT _ = [14, 2, 2, 10, 0, 0, 0, 0, 0, 0, 0, 0] from by decide +kernel] at h
  exact h
theorem parse_bad {v : Value} {w : World} (h : Rd w v 1 (([14] : List UInt8).map bc)) : Calls Try.prog 21 #[v] w fun e w' => e = .returned (.tuple #[.agg #[.int .i64 0, .int .i64 0, .int .i64 0, .slice none 0 0, .slice none 0 0, .slice none 0 0, .bool false, .slice none 0 0, .int .i64 0, .int .i64 0, .int .i64 0], .int .i64 3]) ∧ Below w.heap.size w w' := by
  refine (parse_any v [14] w h (by decide)).mono ?_
  rintro e w' ⟨hb, ⟨_, rfl⟩ | ⟨t, ht, _⟩⟩
  · exact ⟨rfl, hb⟩
  · rw [show parseT [14] = none from by decide +kernel] at ht; cases ht
theorem parse_plain {v : Value} {w : World} (h : Rd w v (bytesT plainT).length ((bytesT plainT).map bc)) : Calls Try.prog 21 #[v] w fun e w' => ∃ (bd bo be bh : Option Addr) (cd co ce ch : Nat) (ms : List OpM), e = .returned (.tuple #[.agg #[.int .i64 2, .int .i64 3, .int .i64 5, .slice bd 2 cd, .slice bo 1 co, .slice be 0 ce, .bool false, .slice bh 0 ch, .int .i64 0, .int .i64 0, .int .i64 0], .int .i64 0]) ∧ Below w.heap.size w w' ∧ Rd w' (.slice bd 2 cd) 2 (([1, 2] : List Int).map ic) ∧ ORd w' (.slice bo 1 co) ms ∧ ms.map OpM.op = [opT1] ∧ ORd w' (.slice be 0 ce) [] ∧ Rd w' (.slice bh 0 ch) 0 [] := by
  refine (parse_any v _ w h plainT_len).mono ?_
  rintro e w' ⟨hb, ⟨hn, _⟩ | ⟨t, ht, he, hr⟩⟩
  · rw [parseT_bytes plainT_ok] at hn; cases hn
  · rw [parseT_bytes plainT_ok] at ht
    have ht := (Option.some.inj ht).symm
    obtain ⟨dev, seq, time, deps, ops, els, fm, hands, note, whom, upto, vd, vo, ve, vh⟩ := t
    obtain ⟨h1, h2, h3, h4⟩ := hr
    simp only [TxM.tx, plainT, TxT.mk.injEq] at ht
    obtain ⟨rfl, rfl, rfl, rfl, hops, hels, rfl, rfl, rfl, rfl, rfl⟩ := ht
    have hels' : els = [] := List.map_eq_nil_iff.1 hels
    subst hels'
    have hl : ops.length = 1 := by have := congrArg List.length hops; simpa using this
    obtain ⟨a1, c1, e1, -⟩ := id h1
    obtain ⟨a2, c2, e2, -⟩ := id h2.1
    obtain ⟨a3, c3, e3, -⟩ := id h3.1
    obtain ⟨a4, c4, e4, -⟩ := id h4
    dsimp only at e1 e2 e3 e4
    rw [hl] at e2
    subst e1 e2 e3 e4
    exact ⟨a1, a2, a3, a4, c1, c2, c3, c4, ops, he, hb, h1, h2, hops, h3, h4⟩
end
end Go.Proofs.Ytliokkoalkhpaaa
