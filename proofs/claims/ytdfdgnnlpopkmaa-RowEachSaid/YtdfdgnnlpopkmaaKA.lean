/-
  Layer 3 (row): the law's own example of it.
-/
import Derived.Test.YtdfdgnnlpopkmaaKQ
import Derived.Test.YtdfdgnnlpopkmaaKF
import Derived.Test.YtdfdgnnlpopkmaaQ
import Derived.Test.YtdfdgnnlpopkmaaRG
namespace Go.Proofs.Ytdfdgnnlpopkmaa
open Go.RowKit Go.Sort Go.BigFrame

theorem rd_litg (w : World) (cs : Array Value) (e : TypeId) (n g : Nat) {xs : List Value} (hn : n ≤ maxLen) (hg : w.heap.size = g) (hx : cs.toList = xs) : Rd (w.alloc (.cells cs e)) (.slice (some ⟨g, 0, none⟩) n n) n xs := by
  subst hg hx
  exact rd_lit w cs e n hn

def cols0 : List Col := [⟨⟨#[]⟩, 0, 1, false⟩, ⟨⟨#[]⟩, 1, 2, true⟩, ⟨⟨#[]⟩, 2, 0, false⟩]
abbrev none0 : Val := ⟨0, 0, ⟨#[]⟩⟩
abbrev num0 (n : Int) : Val := ⟨1, n, ⟨#[]⟩⟩
abbrev txt0 (b : UInt8) : Val := ⟨2, 0, ⟨#[b]⟩⟩
def rowA : List Val := [num0 1, txt0 120]
def rowB : List Val := [num0 1, txt0 121]

/-- What stays readable. -/
structure Live (w : World) (vc va vb : Value) (wk : World) : Prop where
  b : Below w.heap.size w wk
  c : Rd wk vc 3 (colsCs cols0)
  a : Rd wk va 2 (rowCs rowA)
  bb : Rd wk vb 2 (rowCs rowB)

theorem Live.later {w wk w1 : World} {vc va vb : Value} (h : Live w vc va vb wk) (hb : Below wk.heap.size wk w1) : Live w vc va vb w1 :=
  ⟨below_then h.b hb, h.c.later hb, h.a.later hb, h.bb.later hb⟩

structure Live2 (w : World) (vc va vb vd : Value) (wk : World) : Prop where
  l : Live w vc va vb wk
  d : Rd wk vd 2 (rowCs rowA)

theorem Live2.later {w wk w1 : World} {vc va vb vd : Value} (h : Live2 w vc va vb vd wk) (hb : Below wk.heap.size wk w1) : Live2 w vc va vb vd w1 := ⟨h.l.later hb, h.d.later hb⟩

theorem right0 : rightR cols0 [num0 1, txt0 120, num0 5] = 0 := by
  have e : (⟨#[120]⟩ : ByteArray).size = 1 := rfl
  simp [rightR, cols0, firstC, checkC, kindC, rightV, ByteArray.toList_eq, e]
theorem right1 : rightR cols0 [num0 1, none0, none0] = 0 := by
  simp [rightR, cols0, firstC, checkC, kindC, rightV, ByteArray.toList_eq]
theorem right2 : rightR cols0 [none0, none0, none0] = 7 := by
  simp [rightR, cols0, firstC, checkC, rightV, ByteArray.toList_eq]
theorem right3 : rightR cols0 [num0 1, num0 2, none0] = 6 := by
  simp [rightR, cols0, firstC, checkC, kindC, rightV, ByteArray.toList_eq]
theorem right4 : rightR cols0 rowA = 1 := rfl
theorem less0 : lessR rowA rowB = true := by
  simp [lessR, rowA, rowB, sameV, lessV, ByteArray.toList_eq, Op.bytesLess]
theorem less1 : lessR rowB rowA = false := by
  simp [lessR, rowA, rowB, sameV, lessV, ByteArray.toList_eq, Op.bytesLess]
theorem less2 : lessR [num0 1] rowA = true := by
  simp [lessR, rowA, sameV]
theorem allA : allR rowA = true := by
  have e : (⟨#[120]⟩ : ByteArray).size = 1 := rfl
  simp [allR, rowA, rightV, ByteArray.toList_eq, e]
theorem bytesA_len : (bytesR rowA).length ≤ 1000 := by
  have := flatV_len rowA allA
  have h2 := put_len (rowA.length : Int)
  have h3 : rowA.length = 2 := rfl
  show (put rowA.length ++ rowA.flatMap bytesV).length ≤ 1000
  rw [List.length_append]; omega

theorem getA : getR (bytesR rowA) = some (rowA, (bytesR rowA).length) := by
  have := getL_putL getVal_puts rowA [] (by decide) (fun x hx => (List.all_eq_true.1 allA) x hx)
  rwa [List.append_nil] at this

set_option maxRecDepth 100000 in
set_option maxHeartbeats 800000 in
theorem alive_any (w : World) :
    Calls Try.prog 11 #[] w fun e w' => e = .returned (.bool true) ∧ Below w.heap.size w w' := by
  go_enter Try.func11, Try.ntmps11
  go_wp2_with fail
  refine (num_any _ _).mono ?_
  rintro e w1 ⟨rfl, hb1⟩
  have hc1 := (rd_litg w _ _ 3 _ (xs := colsCs cols0) (by decide) rfl rfl).later hb1
  replace hb1 := below_alloc_then hb1
  go_wp2_with fail
  refine (txt_any _ _).mono ?_
  rintro e w2 ⟨rfl, hb2⟩
  replace hc1 := hc1.later hb2
  replace hb2 := below_then hb1 hb2
  clear hb1
  go_wp2_with fail
  refine (num_any _ _).mono ?_
  rintro e w3 ⟨rfl, hb3⟩
  have ha3 := (rd_litg w2 _ _ 2 _ (xs := rowCs rowA) (by decide) rfl rfl).later hb3
  replace hb3 := below_alloc_then hb3
  replace hc1 := hc1.later hb3
  replace hb3 := below_then hb2 hb3
  clear hb2
  go_wp2_with fail
  refine (txt_any _ _).mono ?_
  rintro e w4 ⟨rfl, hb4⟩
  replace hc1 := hc1.later hb4
  replace ha3 := ha3.later hb4
  replace hb4 := below_then hb3 hb4
  clear hb3
  go_wp2_with fail
  have hb5 := below_alloc w4 (.cells #[.int .i64 1, .int .i64 1, .string ⟨#[]⟩, .int .i64 2, .int .i64 0, .string ⟨#[121]⟩] 44)
  have HL := Lib.hid (Live.mk (below_then hb4 hb5) (hc1.later hb5) (ha3.later hb5) (rd_litg w4 #[.int .i64 1, .int .i64 1, .string ⟨#[]⟩, .int .i64 2, .int .i64 0, .string ⟨#[121]⟩] 44 2 _ (xs := rowCs rowB) (by decide) rfl rfl))
  clear hb4 hb5 hc1 ha3
  generalize w4.alloc (.cells #[.int .i64 1, .int .i64 1, .string ⟨#[]⟩, .int .i64 2, .int .i64 0, .string ⟨#[121]⟩] 44) = w5 at *
  refine (bytesR_any _ rowA _ HL.out.a (by decide) allA).mono ?_
  rintro e w6 ⟨v6, rfl, hown6, hb6⟩
  replace HL := Lib.hid (HL.out.later hb6)
  clear hb6
  have hbl := bytesA_len
  go_wp2_with fail
  refine (getR_any _ (bytesR rowA) _ (Rd.of_own hown6) (by omega)).mono ?_
  rintro e w7 ⟨hb7, ⟨hn, -⟩ | ⟨v7, l7, k7, hg7, rfl, hown7⟩⟩
  · rw [getA] at hn; cases hn
  rw [getA] at hg7
  simp only [Option.some.injEq, Prod.mk.injEq] at hg7
  obtain ⟨rfl, rfl⟩ := hg7
  have HM := Lib.hid (Live2.mk (HL.out.later hb7) (Rd.of_own hown7))
  clear HL hb7 hown7 hown6
  go_wp2_with fail
  refine (num_any _ _).mono ?_
  rintro e w8 ⟨rfl, hb8⟩
  replace HM := Lib.hid (HM.out.later hb8)
  clear hb8
  go_wp2_with fail
  refine (txt_any _ _).mono ?_
  rintro e w9 ⟨rfl, hb9⟩
  replace HM := Lib.hid (HM.out.later hb9)
  clear hb9
  go_wp2_with fail
  refine (num_any _ _).mono ?_
  rintro e w10 ⟨rfl, hb10⟩
  replace HM := Lib.hid (HM.out.later hb10)
  clear hb10
  go_wp2_with fail
  refine (rightR_any _ _ cols0 [num0 1, txt0 120, num0 5] _ (HM.out.l.c.later (below_alloc _ _)) (rd_litg _ _ _ 3 _ (xs := rowCs [num0 1, txt0 120, num0 5]) (by decide) rfl rfl)).mono ?_
  rintro e w11 ⟨rfl, hb11⟩
  replace hb11 := below_alloc_then hb11
  rw [right0]
  replace HM := Lib.hid (HM.out.later hb11)
  clear hb11
  go_wp2_with fail
  refine (num_any _ _).mono ?_
  rintro e w12 ⟨rfl, hb12⟩
  replace HM := Lib.hid (HM.out.later hb12)
  clear hb12
  go_wp2_with fail
  refine (rightR_any _ _ cols0 [num0 1, none0, none0] _ (HM.out.l.c.later (below_alloc _ _)) (rd_litg _ _ _ 3 _ (xs := rowCs [num0 1, none0, none0]) (by decide) rfl rfl)).mono ?_
  rintro e w13 ⟨rfl, hb13⟩
  replace hb13 := below_alloc_then hb13
  rw [right1]
  replace HM := Lib.hid (HM.out.later hb13)
  clear hb13
  go_wp2_with fail
  refine (rightR_any _ _ cols0 [none0, none0, none0] _ (HM.out.l.c.later (below_alloc _ _)) (rd_litg _ _ _ 3 _ (xs := rowCs [none0, none0, none0]) (by decide) rfl rfl)).mono ?_
  rintro e w14 ⟨rfl, hb14⟩
  replace hb14 := below_alloc_then hb14
  rw [right2]
  replace HM := Lib.hid (HM.out.later hb14)
  clear hb14
  go_wp2_with fail
  refine (num_any _ _).mono ?_
  rintro e w15 ⟨rfl, hb15⟩
  replace HM := Lib.hid (HM.out.later hb15)
  clear hb15
  go_wp2_with fail
  refine (num_any _ _).mono ?_
  rintro e w16 ⟨rfl, hb16⟩
  replace HM := Lib.hid (HM.out.later hb16)
  clear hb16
  go_wp2_with fail
  refine (rightR_any _ _ cols0 [num0 1, num0 2, none0] _ (HM.out.l.c.later (below_alloc _ _)) (rd_litg _ _ _ 3 _ (xs := rowCs [num0 1, num0 2, none0]) (by decide) rfl rfl)).mono ?_
  rintro e w17 ⟨rfl, hb17⟩
  replace hb17 := below_alloc_then hb17
  rw [right3]
  replace HM := Lib.hid (HM.out.later hb17)
  clear hb17
  go_wp2_with fail
  refine (rightR_any _ _ cols0 rowA _ HM.out.l.c HM.out.l.a).mono ?_
  rintro e w18 ⟨rfl, hb18⟩
  rw [right4]
  replace HM := Lib.hid (HM.out.later hb18)
  clear hb18
  go_wp2_with fail
  refine (lessR_any _ _ rowA rowB _ HM.out.l.a HM.out.l.bb).mono ?_
  rintro e w19 ⟨rfl, hb19⟩
  rw [less0]
  replace HM := Lib.hid (HM.out.later hb19)
  clear hb19
  go_wp2_with fail
  refine (lessR_any _ _ rowB rowA _ HM.out.l.bb HM.out.l.a).mono ?_
  rintro e w20 ⟨rfl, hb20⟩
  rw [less1]
  replace HM := Lib.hid (HM.out.later hb20)
  clear hb20
  obtain ⟨aS, cS, hsl, hrs⟩ := run_part_hi elR HM.out.l.a rfl 1 (by decide)
  have HS := Lib.hid (show Rd _ (.slice aS 1 cS) 1 (rowCs [num0 1]) from hrs)
  clear hrs
  have hsl1 : ∀ W, (Instr.sliceAt 24 _ none (some (.int .i64 1)) none).run Try.prog W = .ok (.slice aS 1 cS) W := hsl
  clear hsl
  go_wp2_with fail
  refine (lessR_any _ _ [num0 1] rowA _ HS.out HM.out.l.a).mono ?_
  rintro e w21 ⟨rfl, hb21⟩
  rw [less2]
  replace HM := Lib.hid (HM.out.later hb21)
  clear hb21
  go_wp2_with fail
  refine (sameR_any _ _ rowA rowA _ HM.out.l.a HM.out.d).mono ?_
  rintro e w22 ⟨rfl, hb22⟩
  rw [show sameR rowA rowA = true from decide_eq_true rfl]
  replace HM := Lib.hid (HM.out.later hb22)
  clear hb22
  go_wp2_with fail
  refine (bytesR_any _ rowA _ HM.out.l.a (by decide) allA).mono ?_
  rintro e w23 ⟨v9, rfl, hown9, hb9⟩
  obtain ⟨a9, c9, rfl, _, _, _, _⟩ := Rd.of_own hown9
  replace HM := Lib.hid (HM.out.later hb9)
  clear hb9 hown9
  obtain ⟨b2, o2, hi2, c0, c1, c2, c3, _⟩ := rd_col HM.out.l.c rfl 2 (by decide)
  have hi2' : ∀ W, (Instr.indexAt 22 _ (.int .i64 2)).run Try.prog W = .ok (.pointer (some ⟨b2, o2, none⟩)) W := hi2
  clear hi2
  replace c0 : w23.cell? ⟨b2, o2, none⟩ = some (.string ⟨#[]⟩) := c0
  replace c1 : w23.cell? ⟨b2, o2 + 1, none⟩ = some (.int .i64 2) := c1
  replace c2 : w23.cell? ⟨b2, o2 + 2, none⟩ = some (.int .i64 0) := c2
  replace c3 : w23.cell? ⟨b2, o2 + 3, none⟩ = some (.bool false) := c3
  go_wp2_with fail
  refine (kind_any _ _ _ _ _).mono ?_
  rintro e w24 ⟨rfl, hb24⟩
  rw [show kindC ⟨⟨#[]⟩, 2, 0, false⟩ = 1 from rfl]
  replace HM := Lib.hid (HM.out.later hb24)
  clear hb24
  go_wp2_with fail
  go_ret
  exact ⟨rfl, HM.out.l.b⟩
end Go.Proofs.Ytdfdgnnlpopkmaa
