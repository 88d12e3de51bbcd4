/-
  The law RowTotal.
-/
import Derived.Test.YtdfdgnnlpopkmaaLB
namespace Go.Proofs.Ytdfdgnnlpopkmaa.rowTotal
open Go.ChangeShapes Go.WideShapes Go.ChangeAt Go.RowKit Go.Sort Go.BigFrame Go.Proofs.Ytdfdgnnlpopkmaa
open Go.ChangeMaps (open_string shut_string)

set_option maxRecDepth 100000 in
set_option maxHeartbeats 2000000 in
theorem walk (va : Value) (l : List Val) (vb : Value) (m : List Val) (vc : Value) (n : List Val) (w : World) (ha : Rd w va l.length (rowCs l)) (hb : Rd w vb m.length (rowCs m)) (hc : Rd w vc n.length (rowCs n)) :
    Calls Try.prog 7 #[va, vb, vc] w fun e w' => e = .returned (.bool true) ∧ Below w.heap.size w w' := by
  obtain ⟨aa, ca, rfl, hna, hma, _, _⟩ := id ha
  obtain ⟨ab, cb, rfl, hnb, hmb, _, _⟩ := id hb
  obtain ⟨ac, cc, rfl, hnc, hmc, _, _⟩ := id hc
  have HA := Lib.hid ha
  have HBB := Lib.hid hb
  have HC := Lib.hid hc
  have HB := Lib.hid (Below.refl w.heap.size w)
  clear ha hb hc
  cases hf : (fewR l && (fewR m && fewR n))
  · have HF := Lib.hid hf
    clear hf
    go_enter Try.func7, Try.ntmps7
    go_wp2_with fail
    refine (few3 (HA.out.later HB.out) (HBB.out.later HB.out) (HC.out.later HB.out) rfl).mono ?_
    rintro e w1 ⟨rfl, hb1⟩
    rw [HF.out]
    replace HB := Lib.hid (below_then HB.out (by first | exact hb1 | exact below_alloc_then hb1))
    clear hb1
    go_wp2_with fail
    refine (alive_any _).mono ?_
    rintro e w2 ⟨rfl, hb2⟩
    replace HB := Lib.hid (below_then HB.out (by first | exact hb2 | exact below_alloc_then hb2))
    clear hb2
    go_wp2_with fail
    go_ret
    exact ⟨rfl, HB.out⟩
  · have HF := Lib.hid hf
    clear hf
    cases h1 : allR l
    · have H1 := Lib.hid h1
      clear h1
      go_enter Try.func7, Try.ntmps7
      go_wp2_with fail
      refine (few3 (HA.out.later HB.out) (HBB.out.later HB.out) (HC.out.later HB.out) rfl).mono ?_
      rintro e w3 ⟨rfl, hb3⟩
      rw [HF.out]
      replace HB := Lib.hid (below_then HB.out (by first | exact hb3 | exact below_alloc_then hb3))
      clear hb3
      go_wp2_with fail
      refine (refAll_any _ l _ (HA.out.later HB.out)).mono ?_
      rintro e w4 ⟨rfl, hb4⟩
      rw [H1.out]
      replace HB := Lib.hid (below_then HB.out (by first | exact hb4 | exact below_alloc_then hb4))
      clear hb4
      go_wp2_with fail
      refine (alive_any _).mono ?_
      rintro e w5 ⟨rfl, hb5⟩
      replace HB := Lib.hid (below_then HB.out (by first | exact hb5 | exact below_alloc_then hb5))
      clear hb5
      go_wp2_with fail
      go_ret
      exact ⟨rfl, HB.out⟩
    · have H1 := Lib.hid h1
      clear h1
      cases h2 : allR m
      · have H2 := Lib.hid h2
        clear h2
        go_enter Try.func7, Try.ntmps7
        go_wp2_with fail
        refine (few3 (HA.out.later HB.out) (HBB.out.later HB.out) (HC.out.later HB.out) rfl).mono ?_
        rintro e w6 ⟨rfl, hb6⟩
        rw [HF.out]
        replace HB := Lib.hid (below_then HB.out (by first | exact hb6 | exact below_alloc_then hb6))
        clear hb6
        go_wp2_with fail
        refine (refAll_any _ l _ (HA.out.later HB.out)).mono ?_
        rintro e w7 ⟨rfl, hb7⟩
        rw [H1.out]
        replace HB := Lib.hid (below_then HB.out (by first | exact hb7 | exact below_alloc_then hb7))
        clear hb7
        go_wp2_with fail
        refine (refAll_any _ m _ (HBB.out.later HB.out)).mono ?_
        rintro e w8 ⟨rfl, hb8⟩
        rw [H2.out]
        replace HB := Lib.hid (below_then HB.out (by first | exact hb8 | exact below_alloc_then hb8))
        clear hb8
        go_wp2_with fail
        refine (alive_any _).mono ?_
        rintro e w9 ⟨rfl, hb9⟩
        replace HB := Lib.hid (below_then HB.out (by first | exact hb9 | exact below_alloc_then hb9))
        clear hb9
        go_wp2_with fail
        go_ret
        exact ⟨rfl, HB.out⟩
      · have H2 := Lib.hid h2
        clear h2
        cases h3 : allR n
        · have H3 := Lib.hid h3
          clear h3
          go_enter Try.func7, Try.ntmps7
          go_wp2_with fail
          refine (few3 (HA.out.later HB.out) (HBB.out.later HB.out) (HC.out.later HB.out) rfl).mono ?_
          rintro e w10 ⟨rfl, hb10⟩
          rw [HF.out]
          replace HB := Lib.hid (below_then HB.out (by first | exact hb10 | exact below_alloc_then hb10))
          clear hb10
          go_wp2_with fail
          refine (refAll_any _ l _ (HA.out.later HB.out)).mono ?_
          rintro e w11 ⟨rfl, hb11⟩
          rw [H1.out]
          replace HB := Lib.hid (below_then HB.out (by first | exact hb11 | exact below_alloc_then hb11))
          clear hb11
          go_wp2_with fail
          refine (refAll_any _ m _ (HBB.out.later HB.out)).mono ?_
          rintro e w12 ⟨rfl, hb12⟩
          rw [H2.out]
          replace HB := Lib.hid (below_then HB.out (by first | exact hb12 | exact below_alloc_then hb12))
          clear hb12
          go_wp2_with fail
          refine (refAll_any _ n _ (HC.out.later HB.out)).mono ?_
          rintro e w13 ⟨rfl, hb13⟩
          rw [H3.out]
          replace HB := Lib.hid (below_then HB.out (by first | exact hb13 | exact below_alloc_then hb13))
          clear hb13
          go_wp2_with fail
          refine (alive_any _).mono ?_
          rintro e w14 ⟨rfl, hb14⟩
          replace HB := Lib.hid (below_then HB.out (by first | exact hb14 | exact below_alloc_then hb14))
          clear hb14
          go_wp2_with fail
          go_ret
          exact ⟨rfl, HB.out⟩
        · have H3 := Lib.hid h3
          clear h3
          rcases total_cases l m with ⟨hs, hx, hy⟩ | ⟨hs, hx, hy⟩ | ⟨hs, hx, hy⟩
          · have HS := Lib.hid hs
            have HX := Lib.hid hx
            have HY := Lib.hid hy
            clear hs hx hy
            go_enter Try.func7, Try.ntmps7
            go_wp2_with fail
            refine (few3 (HA.out.later HB.out) (HBB.out.later HB.out) (HC.out.later HB.out) rfl).mono ?_
            rintro e w15 ⟨rfl, hb15⟩
            rw [HF.out]
            replace HB := Lib.hid (below_then HB.out (by first | exact hb15 | exact below_alloc_then hb15))
            clear hb15
            go_wp2_with fail
            refine (refAll_any _ l _ (HA.out.later HB.out)).mono ?_
            rintro e w16 ⟨rfl, hb16⟩
            rw [H1.out]
            replace HB := Lib.hid (below_then HB.out (by first | exact hb16 | exact below_alloc_then hb16))
            clear hb16
            go_wp2_with fail
            refine (refAll_any _ m _ (HBB.out.later HB.out)).mono ?_
            rintro e w17 ⟨rfl, hb17⟩
            rw [H2.out]
            replace HB := Lib.hid (below_then HB.out (by first | exact hb17 | exact below_alloc_then hb17))
            clear hb17
            go_wp2_with fail
            refine (refAll_any _ n _ (HC.out.later HB.out)).mono ?_
            rintro e w18 ⟨rfl, hb18⟩
            rw [H3.out]
            replace HB := Lib.hid (below_then HB.out (by first | exact hb18 | exact below_alloc_then hb18))
            clear hb18
            go_wp2_with fail
            refine (lessR_any _ _ l m _ (HA.out.later HB.out) (HBB.out.later HB.out)).mono ?_
            rintro e w19 ⟨rfl, hb19⟩
            rw [HX.out]
            replace HB := Lib.hid (below_then HB.out (by first | exact hb19 | exact below_alloc_then hb19))
            clear hb19
            go_wp2_with fail
            refine (lessR_any _ _ m l _ (HBB.out.later HB.out) (HA.out.later HB.out)).mono ?_
            rintro e w20 ⟨rfl, hb20⟩
            rw [HY.out]
            replace HB := Lib.hid (below_then HB.out (by first | exact hb20 | exact below_alloc_then hb20))
            clear hb20
            go_wp2_with fail
            refine (sameR_any _ _ l m _ (HA.out.later HB.out) (HBB.out.later HB.out)).mono ?_
            rintro e w21 ⟨rfl, hb21⟩
            rw [HS.out]
            replace HB := Lib.hid (below_then HB.out (by first | exact hb21 | exact below_alloc_then hb21))
            clear hb21
            go_wp2_with fail
            refine (sameR_any _ _ l m _ (HA.out.later HB.out) (HBB.out.later HB.out)).mono ?_
            rintro e w22 ⟨rfl, hb22⟩
            rw [HS.out]
            replace HB := Lib.hid (below_then HB.out (by first | exact hb22 | exact below_alloc_then hb22))
            clear hb22
            go_wp2_with fail
            refine (alive_any _).mono ?_
            rintro e w23 ⟨rfl, hb23⟩
            replace HB := Lib.hid (below_then HB.out (by first | exact hb23 | exact below_alloc_then hb23))
            clear hb23
            go_wp2_with fail
            refine (lessR_any _ _ l l _ (HA.out.later HB.out) (HA.out.later HB.out)).mono ?_
            rintro e w24 ⟨rfl, hb24⟩
            rw [lessR_irrefl]
            replace HB := Lib.hid (below_then HB.out (by first | exact hb24 | exact below_alloc_then hb24))
            clear hb24
            go_wp2_with fail
            go_ret
            exact ⟨rfl, HB.out⟩
          · have HS := Lib.hid hs
            have HX := Lib.hid hx
            have HY := Lib.hid hy
            clear hs hx hy
            cases hz : lessR m n
            · have HZ := Lib.hid hz
              clear hz
              go_enter Try.func7, Try.ntmps7
              go_wp2_with fail
              refine (few3 (HA.out.later HB.out) (HBB.out.later HB.out) (HC.out.later HB.out) rfl).mono ?_
              rintro e w25 ⟨rfl, hb25⟩
              rw [HF.out]
              replace HB := Lib.hid (below_then HB.out (by first | exact hb25 | exact below_alloc_then hb25))
              clear hb25
              go_wp2_with fail
              refine (refAll_any _ l _ (HA.out.later HB.out)).mono ?_
              rintro e w26 ⟨rfl, hb26⟩
              rw [H1.out]
              replace HB := Lib.hid (below_then HB.out (by first | exact hb26 | exact below_alloc_then hb26))
              clear hb26
              go_wp2_with fail
              refine (refAll_any _ m _ (HBB.out.later HB.out)).mono ?_
              rintro e w27 ⟨rfl, hb27⟩
              rw [H2.out]
              replace HB := Lib.hid (below_then HB.out (by first | exact hb27 | exact below_alloc_then hb27))
              clear hb27
              go_wp2_with fail
              refine (refAll_any _ n _ (HC.out.later HB.out)).mono ?_
              rintro e w28 ⟨rfl, hb28⟩
              rw [H3.out]
              replace HB := Lib.hid (below_then HB.out (by first | exact hb28 | exact below_alloc_then hb28))
              clear hb28
              go_wp2_with fail
              refine (lessR_any _ _ l m _ (HA.out.later HB.out) (HBB.out.later HB.out)).mono ?_
              rintro e w29 ⟨rfl, hb29⟩
              rw [HX.out]
              replace HB := Lib.hid (below_then HB.out (by first | exact hb29 | exact below_alloc_then hb29))
              clear hb29
              go_wp2_with fail
              refine (lessR_any _ _ m l _ (HBB.out.later HB.out) (HA.out.later HB.out)).mono ?_
              rintro e w30 ⟨rfl, hb30⟩
              rw [HY.out]
              replace HB := Lib.hid (below_then HB.out (by first | exact hb30 | exact below_alloc_then hb30))
              clear hb30
              go_wp2_with fail
              refine (sameR_any _ _ l m _ (HA.out.later HB.out) (HBB.out.later HB.out)).mono ?_
              rintro e w31 ⟨rfl, hb31⟩
              rw [HS.out]
              replace HB := Lib.hid (below_then HB.out (by first | exact hb31 | exact below_alloc_then hb31))
              clear hb31
              go_wp2_with fail
              refine (sameR_any _ _ l m _ (HA.out.later HB.out) (HBB.out.later HB.out)).mono ?_
              rintro e w32 ⟨rfl, hb32⟩
              rw [HS.out]
              replace HB := Lib.hid (below_then HB.out (by first | exact hb32 | exact below_alloc_then hb32))
              clear hb32
              go_wp2_with fail
              refine (alive_any _).mono ?_
              rintro e w33 ⟨rfl, hb33⟩
              replace HB := Lib.hid (below_then HB.out (by first | exact hb33 | exact below_alloc_then hb33))
              clear hb33
              go_wp2_with fail
              refine (lessR_any _ _ m n _ (HBB.out.later HB.out) (HC.out.later HB.out)).mono ?_
              rintro e w34 ⟨rfl, hb34⟩
              rw [HZ.out]
              replace HB := Lib.hid (below_then HB.out (by first | exact hb34 | exact below_alloc_then hb34))
              clear hb34
              go_wp2_with fail
              refine (lessR_any _ _ l l _ (HA.out.later HB.out) (HA.out.later HB.out)).mono ?_
              rintro e w35 ⟨rfl, hb35⟩
              rw [lessR_irrefl]
              replace HB := Lib.hid (below_then HB.out (by first | exact hb35 | exact below_alloc_then hb35))
              clear hb35
              go_wp2_with fail
              go_ret
              exact ⟨rfl, HB.out⟩
            · have HZ := Lib.hid hz
              have HT := Lib.hid (lessR_trans HX.out hz)
              clear hz
              go_enter Try.func7, Try.ntmps7
              go_wp2_with fail
              refine (few3 (HA.out.later HB.out) (HBB.out.later HB.out) (HC.out.later HB.out) rfl).mono ?_
              rintro e w36 ⟨rfl, hb36⟩
              rw [HF.out]
              replace HB := Lib.hid (below_then HB.out (by first | exact hb36 | exact below_alloc_then hb36))
              clear hb36
              go_wp2_with fail
              refine (refAll_any _ l _ (HA.out.later HB.out)).mono ?_
              rintro e w37 ⟨rfl, hb37⟩
              rw [H1.out]
              replace HB := Lib.hid (below_then HB.out (by first | exact hb37 | exact below_alloc_then hb37))
              clear hb37
              go_wp2_with fail
              refine (refAll_any _ m _ (HBB.out.later HB.out)).mono ?_
              rintro e w38 ⟨rfl, hb38⟩
              rw [H2.out]
              replace HB := Lib.hid (below_then HB.out (by first | exact hb38 | exact below_alloc_then hb38))
              clear hb38
              go_wp2_with fail
              refine (refAll_any _ n _ (HC.out.later HB.out)).mono ?_
              rintro e w39 ⟨rfl, hb39⟩
              rw [H3.out]
              replace HB := Lib.hid (below_then HB.out (by first | exact hb39 | exact below_alloc_then hb39))
              clear hb39
              go_wp2_with fail
              refine (lessR_any _ _ l m _ (HA.out.later HB.out) (HBB.out.later HB.out)).mono ?_
              rintro e w40 ⟨rfl, hb40⟩
              rw [HX.out]
              replace HB := Lib.hid (below_then HB.out (by first | exact hb40 | exact below_alloc_then hb40))
              clear hb40
              go_wp2_with fail
              refine (lessR_any _ _ m l _ (HBB.out.later HB.out) (HA.out.later HB.out)).mono ?_
              rintro e w41 ⟨rfl, hb41⟩
              rw [HY.out]
              replace HB := Lib.hid (below_then HB.out (by first | exact hb41 | exact below_alloc_then hb41))
              clear hb41
              go_wp2_with fail
              refine (sameR_any _ _ l m _ (HA.out.later HB.out) (HBB.out.later HB.out)).mono ?_
              rintro e w42 ⟨rfl, hb42⟩
              rw [HS.out]
              replace HB := Lib.hid (below_then HB.out (by first | exact hb42 | exact below_alloc_then hb42))
              clear hb42
              go_wp2_with fail
              refine (sameR_any _ _ l m _ (HA.out.later HB.out) (HBB.out.later HB.out)).mono ?_
              rintro e w43 ⟨rfl, hb43⟩
              rw [HS.out]
              replace HB := Lib.hid (below_then HB.out (by first | exact hb43 | exact below_alloc_then hb43))
              clear hb43
              go_wp2_with fail
              refine (alive_any _).mono ?_
              rintro e w44 ⟨rfl, hb44⟩
              replace HB := Lib.hid (below_then HB.out (by first | exact hb44 | exact below_alloc_then hb44))
              clear hb44
              go_wp2_with fail
              refine (lessR_any _ _ m n _ (HBB.out.later HB.out) (HC.out.later HB.out)).mono ?_
              rintro e w45 ⟨rfl, hb45⟩
              rw [HZ.out]
              replace HB := Lib.hid (below_then HB.out (by first | exact hb45 | exact below_alloc_then hb45))
              clear hb45
              go_wp2_with fail
              refine (lessR_any _ _ l n _ (HA.out.later HB.out) (HC.out.later HB.out)).mono ?_
              rintro e w46 ⟨rfl, hb46⟩
              rw [HT.out]
              replace HB := Lib.hid (below_then HB.out (by first | exact hb46 | exact below_alloc_then hb46))
              clear hb46
              go_wp2_with fail
              refine (lessR_any _ _ l l _ (HA.out.later HB.out) (HA.out.later HB.out)).mono ?_
              rintro e w47 ⟨rfl, hb47⟩
              rw [lessR_irrefl]
              replace HB := Lib.hid (below_then HB.out (by first | exact hb47 | exact below_alloc_then hb47))
              clear hb47
              go_wp2_with fail
              go_ret
              exact ⟨rfl, HB.out⟩
          · have HS := Lib.hid hs
            have HX := Lib.hid hx
            have HY := Lib.hid hy
            clear hs hx hy
            go_enter Try.func7, Try.ntmps7
            go_wp2_with fail
            refine (few3 (HA.out.later HB.out) (HBB.out.later HB.out) (HC.out.later HB.out) rfl).mono ?_
            rintro e w48 ⟨rfl, hb48⟩
            rw [HF.out]
            replace HB := Lib.hid (below_then HB.out (by first | exact hb48 | exact below_alloc_then hb48))
            clear hb48
            go_wp2_with fail
            refine (refAll_any _ l _ (HA.out.later HB.out)).mono ?_
            rintro e w49 ⟨rfl, hb49⟩
            rw [H1.out]
            replace HB := Lib.hid (below_then HB.out (by first | exact hb49 | exact below_alloc_then hb49))
            clear hb49
            go_wp2_with fail
            refine (refAll_any _ m _ (HBB.out.later HB.out)).mono ?_
            rintro e w50 ⟨rfl, hb50⟩
            rw [H2.out]
            replace HB := Lib.hid (below_then HB.out (by first | exact hb50 | exact below_alloc_then hb50))
            clear hb50
            go_wp2_with fail
            refine (refAll_any _ n _ (HC.out.later HB.out)).mono ?_
            rintro e w51 ⟨rfl, hb51⟩
            rw [H3.out]
            replace HB := Lib.hid (below_then HB.out (by first | exact hb51 | exact below_alloc_then hb51))
            clear hb51
            go_wp2_with fail
            refine (lessR_any _ _ l m _ (HA.out.later HB.out) (HBB.out.later HB.out)).mono ?_
            rintro e w52 ⟨rfl, hb52⟩
            rw [HX.out]
            replace HB := Lib.hid (below_then HB.out (by first | exact hb52 | exact below_alloc_then hb52))
            clear hb52
            go_wp2_with fail
            refine (lessR_any _ _ m l _ (HBB.out.later HB.out) (HA.out.later HB.out)).mono ?_
            rintro e w53 ⟨rfl, hb53⟩
            rw [HY.out]
            replace HB := Lib.hid (below_then HB.out (by first | exact hb53 | exact below_alloc_then hb53))
            clear hb53
            go_wp2_with fail
            refine (sameR_any _ _ l m _ (HA.out.later HB.out) (HBB.out.later HB.out)).mono ?_
            rintro e w54 ⟨rfl, hb54⟩
            rw [HS.out]
            replace HB := Lib.hid (below_then HB.out (by first | exact hb54 | exact below_alloc_then hb54))
            clear hb54
            go_wp2_with fail
            refine (sameR_any _ _ l m _ (HA.out.later HB.out) (HBB.out.later HB.out)).mono ?_
            rintro e w55 ⟨rfl, hb55⟩
            rw [HS.out]
            replace HB := Lib.hid (below_then HB.out (by first | exact hb55 | exact below_alloc_then hb55))
            clear hb55
            go_wp2_with fail
            refine (alive_any _).mono ?_
            rintro e w56 ⟨rfl, hb56⟩
            replace HB := Lib.hid (below_then HB.out (by first | exact hb56 | exact below_alloc_then hb56))
            clear hb56
            go_wp2_with fail
            refine (lessR_any _ _ l l _ (HA.out.later HB.out) (HA.out.later HB.out)).mono ?_
            rintro e w57 ⟨rfl, hb57⟩
            rw [lessR_irrefl]
            replace HB := Lib.hid (below_then HB.out (by first | exact hb57 | exact below_alloc_then hb57))
            clear hb57
            go_wp2_with fail
            go_ret
            exact ⟨rfl, HB.out⟩

set_option maxRecDepth 100000 in
theorem lifted (os : Os) (started : os.Started) (H : Type) (enc : TypeId × Value → H) :
    ReturnsInHanded {} Try.checked os 7 .any (Rows.rowTotalSpec.pre6 enc Try.prog Try.f7 Rows.rowTotalRow.domain false) (Rows.rowTotalSpec.post enc Try.prog Try.f7 false true false false) := by
  refine returnsInHanded_of_change_sized (C := Try.checked) ownKnob_none started (by kernel_rfl) Try.func7
    (ChangeSpec.witness6 (enc := enc) (C := Try.checked) false ⟨#[], #[.slice none 0 0, .slice none 0 0, .slice none 0 0], []⟩ 8 (by kernel_rfl) (by kernel_rfl) (by kernel_rfl) (by kernel_rfl)) ?_
  intro W base args ds gs before hval0 hW hcnd hsz0 _
  have hval : ∀ (j : Nat) t v, Try.f7.params[j]? = some t → args[j]? = some v → Value.okWide Try.prog W .any base t v := hval0
  have hW' := hW
  obtain ⟨p, q, hA0, hV, rfl, hfz, hnd⟩ := hW
  have hA : DataW.TrodAll enc Try.prog W 0 (fun _ => true) true Try.f7.params.toList args.toList ds p := hA0
  have hsz : (DataW.weightsEach Try.prog (Try.f7.params.toList ++ Rows.rowTotalSpec.plain.varTypes Try.prog) (ds ++ gs)).all (· ≤ reachBytes) = true := hsz0
  rw [Try.params7] at hA hval hsz
  obtain ⟨v0, vs0, d0, ds0, p0, q0, hargs, rfl, rfl, h0, r0r⟩ := trodAll_cons hA
  obtain ⟨v1, vs1, d1, ds1, p1, q1, rfl, rfl, rfl, h1, r1r⟩ := trodAll_cons r0r
  obtain ⟨v2, vs2, d2, ds2, p2, q2, rfl, rfl, rfl, h2, r2r⟩ := trodAll_cons r1r
  obtain ⟨rfl, rfl, rfl⟩ := trodAll_nil r2r
  obtain rfl : args = #[v0, v1, v2] := by cases args; simp_all
  obtain ⟨rfl, rfl⟩ := trodVars_none hV
  have g0 := sized_at hsz (j := 0) rfl rfl
  have g1 := sized_at hsz (j := 1) rfl rfl
  have g2 := sized_at hsz (j := 2) rfl rfl
  obtain ⟨y0_0, f0_0⟩ := open_row (hval 0 24 v0 rfl rfl) h0
  obtain ⟨y1_0, f1_0⟩ := open_row (hval 1 24 v1 rfl rfl) h1
  obtain ⟨y2_0, f2_0⟩ := open_row (hval 2 24 v2 rfl rfl) h2
  refine (walk v0 y0_0 v1 y1_0 v2 y2_0 W f0_0 f1_0 f2_0).mono fun e W' ⟨he, hg⟩ => ⟨_, he, law_post laidOut (by kernel_rfl) rfl Try.underlying4 rfl rfl hW' hg⟩

theorem over : Rows.rowTotalRow.holds Try.pinned (OpenSpec.ofChange Rows.rowTotalSpec) :=
  OpenClaim.holds_of_wide 7 Try.f7 rfl rfl rfl rfl rfl rfl rfl ⟨rfl, rfl, rfl, rfl, rfl⟩ rfl rfl rfl rfl rfl (by kernel_rfl) Try.func7 (by kernel_rfl)
    (of_decide_eq_true (by kernel_rfl)) (by unfold Func.isWrapper; first | (rw [if_pos (by decide +kernel)]; kernel_rfl) | (rw [if_neg (by decide +kernel)]; exact ⟨rfl, rfl⟩))
    (fun os started H enc _ => lifted os started H enc)

/-- THE STATEMENT. -/
theorem proved : Rows.RowTotalSaid :=
  over
#print axioms proved
end Go.Proofs.Ytdfdgnnlpopkmaa.rowTotal
