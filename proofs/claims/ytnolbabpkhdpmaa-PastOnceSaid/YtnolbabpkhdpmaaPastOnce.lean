/-
  The law PastOnce. (printed by tools/gen_l20.py)
-/
import Derived.Test.YtnolbabpkhdpmaaN5
namespace Go.Proofs.Ytnolbabpkhdpmaa.pastOnce
open Go.ChangeShapes Go.WideShapes Go.ChangeAt Go.RowKit Go.Sort Go.BigFrame Go.Proofs.Ytnolbabpkhdpmaa
open Go.ChangeMaps (open_string shut_string)
attribute [local irreducible] FlowW

theorem ofV_v {v : Value} {l : List Int} {d f : Int} {w : World} (hf : ofV l d = f) (h : Rd w v l.length (l.map ic)) : Calls Try.prog 10 #[v, .int .i64 d] w fun e w' => e = .returned (.int .i64 f) ∧ w = w' := hf ▸ ofV_any v l d w h
theorem few_b {va : Value} {l : List TxS} {w : World} (r : Bool) (hr : fewL 20 l = r) (ha : LRd w va l) : Calls Try.prog 8 #[va] w fun e w' => e = .returned (.bool r) ∧ Below w.heap.size w w' := hr ▸ few20_any w ha
theorem closed_b {vv vl : Value} {line : List Int} {last : Int} {l : List TxS} {w : World} (r : Bool) (hr : closedT line last l = r) (hv : Rd w vv line.length (line.map ic)) (hl : LRd w vl l) (hwr : ∀ d, -9223372036854775808 ≤ ofV line d) (hn : l.length ≤ 1000000) :
    Calls Try.prog 9 #[vv, .int .i64 last, vl] w fun e w' => e = .returned (.bool r) ∧ Below w.heap.size w w' := hr ▸ closed_any w hv hl hwr hn
theorem lrd_one {t : TxS} {w : World} (h : t.Reads w) : LRd (w.alloc (.cells #[.int .i64 t.dev, .int .i64 t.seq, .int .i64 t.time, .slice t.ad t.nd t.cd, .slice t.ao t.no t.co, .slice t.ae t.ne t.ce, .bool t.fm, .slice t.ah t.nh t.ch, .int .i64 t.note, .int .i64 t.whom, .int .i64 t.upto] 31)) (.slice (some ⟨w.heap.size, 0, none⟩) 1 1) [t] :=
  ⟨rd_lit w _ _ 1 (by decide), fun x hx => by rw [List.mem_singleton.1 hx]; exact h.later (below_alloc _ _)⟩
theorem fewL_hands {l : List TxS} {w : World} {v : Value} (hl : LRd w v l) (h : fewL 20 l = true) : ∀ x ∈ l, x.hands.length ≤ 99 := by
  intro x hx
  unfold fewL at h
  rw [Bool.and_eq_true, List.all_eq_true] at h
  have := h.2 x hx
  unfold fewX fewQ at this
  simp only [Bool.and_eq_true, decide_eq_true_eq] at this
  have h2 := (hl.2 x hx).hnh
  omega
theorem note_b {dev seq time note whom upto : Int} {fm : Bool} {ad ao ae ah : Option Addr} {nd cd no co ne ce nh ch : Nat} {vv vo vl : Value} {line deps : List Int} {owns : List OwnS} {l : List TxS} {w : World} {may : Bool} (hm : noteT line owns l dev note whom upto deps = may) (hv : Rd w vv line.length (line.map ic)) (ho : Rd w vo owns.length (owns.flatMap OwnS.cs)) (hl : LRd w vl l) (hd : Rd w (.slice ad nd cd) deps.length (deps.map ic)) (h1 : line.length ≤ 100000) (h2 : owns.length ≤ 100000) (h3 : ∀ t ∈ l, t.hands.length ≤ 99) (hn : l.length ≤ 1000) :
    Calls Try.prog 13 #[vv, vo, vl, .agg #[.int .i64 dev, .int .i64 seq, .int .i64 time, .slice ad nd cd, .slice ao no co, .slice ae ne ce, .bool fm, .slice ah nh ch, .int .i64 note, .int .i64 whom, .int .i64 upto]] w fun e w' => e = .returned (.bool may) ∧ Below w.heap.size w w' := hm ▸ note_any w hv ho hl hd h1 h2 h3 hn
def laterQ (whom : Int) (x y : TxS) : Bool := (y.dev == 1) && (decide (x.seq < y.seq) && ((y.note != 0) && (y.whom == whom)))
def candQ (whom : Int) (y : TxS) : Prop := ¬ y.note = 0 ∧ y.whom = whom
theorem word_take {whom : Int} (l : List TxS) : ∀ k : Nat, k ≤ l.length → (wordL whom (l.take k) = none → ∀ y ∈ l.take k, ¬ candQ whom y) ∧ ∀ z, wordL whom (l.take k) = some z → z ∈ l.take k ∧ candQ whom z ∧ ∀ y ∈ l.take k, candQ whom y → y.seq ≤ z.seq
  | 0, _ => ⟨fun _ y hy => by simp at hy, fun z hz => by simp [wordL] at hz⟩
  | k + 1, hk => by
    obtain ⟨ih1, ih2⟩ := word_take l k (by omega)
    obtain ⟨a, ha⟩ : ∃ a, l[k] = a := ⟨_, rfl⟩
    rw [List.take_succ_eq_append_getElem (by omega), ha, wordL_snoc]
    generalize l.take k = s at *
    have old : ¬ candQ whom a → wordF whom (wordL whom s) a = wordL whom s := fun hc => by
      unfold wordF
      by_cases h1 : a.note = 0
      · rw [if_pos h1]
      · rw [if_neg h1, if_pos fun h2 => hc ⟨h1, h2⟩]
    have new : candQ whom a → wordF whom (wordL whom s) a = match wordL whom s with | none => some a | some y => if a.seq ≤ y.seq then some y else some a := fun hc => by
      unfold wordF
      rw [if_neg hc.1, if_neg fun h => h hc.2]
      cases wordL whom s <;> rfl
    have mem : ∀ y, y ∈ s ++ [a] ↔ y ∈ s ∨ y = a := fun y => by simp
    by_cases hc : candQ whom a
    · rw [new hc]
      cases hw : wordL whom s with
      | none =>
        refine ⟨(fun h => nomatch h), fun z hz => ?_⟩
        cases hz
        exact ⟨(mem _).2 (.inr rfl), hc, fun y hy hq => by rcases (mem y).1 hy with hy | rfl; exact absurd hq (ih1 hw y hy); exact Int.le_refl _⟩
      | some z0 =>
        obtain ⟨j1, j2, j3⟩ := ih2 z0 hw
        by_cases hle : a.seq ≤ z0.seq
        · simp only [hle, if_true]
          refine ⟨(fun h => nomatch h), fun z hz => ?_⟩
          cases hz
          exact ⟨(mem _).2 (.inl j1), j2, fun y hy hq => by rcases (mem y).1 hy with hy | rfl; exact j3 y hy hq; exact hle⟩
        · simp only [hle, if_false]
          refine ⟨(fun h => nomatch h), fun z hz => ?_⟩
          cases hz
          exact ⟨(mem _).2 (.inr rfl), hc, fun y hy hq => by rcases (mem y).1 hy with hy | rfl; have := j3 y hy hq; omega; exact Int.le_refl _⟩
    · rw [old hc]
      refine ⟨fun hn y hy hq => ?_, fun z hz => ?_⟩
      · rcases (mem y).1 hy with hy | rfl
        · exact ih1 hn y hy hq
        · exact hc hq
      · obtain ⟨j1, j2, j3⟩ := ih2 z hz
        exact ⟨(mem _).2 (.inl j1), j2, fun y hy hq => by rcases (mem y).1 hy with hy | rfl; exact j3 y hy hq; exact absurd hq hc⟩
/-- A device that is retired by the last word has none any more. -/
theorem once_no {line : List Int} {owns : List OwnS} {l : List TxS} {dev note whom upto : Int} {deps : List Int} {x : TxS} (hn : ¬ note = 0) (hnd : Nd l) (hx : x ∈ pastT l deps) (h1 : x.dev = 1) (h2 : x.note = 2) (h3 : x.whom = whom) (h4 : (pastT l deps).any (laterQ whom x) = false) : noteT line owns l dev note whom upto deps = false := by
  have hp : Nd (pastT l deps) := (nd_ord hnd).sub List.filter_sublist
  have hxd : x ∈ devT 1 (pastT l deps) := devT_iff.2 ⟨hx, h1⟩
  have hw := word_take (whom := whom) (devT 1 (pastT l deps)) _ (Nat.le_refl _)
  rw [List.take_of_length_le (Nat.le_refl _)] at hw
  have hcx : candQ whom x := ⟨by rw [h2]; decide, h3⟩
  obtain ⟨z, hz⟩ : ∃ z, wordT (pastT l deps) whom = some z := by
    cases hq : wordT (pastT l deps) whom with
    | none => exact absurd hcx (hw.1 hq x hxd)
    | some z => exact ⟨z, rfl⟩
  obtain ⟨j1, j2, j3⟩ := hw.2 z hz
  have hzd := devT_iff.1 j1
  have hle := j3 x hxd hcx
  have hge : z.seq ≤ x.seq := by
    have := List.any_eq_false.1 h4 z hzd.1
    refine Int.not_lt.1 fun hlt => this ?_
    unfold laterQ
    simp [hzd.2, hlt, j2.1, j2.2]
  have hzx : z = x := hp.eq hzd.1 hx (hzd.2.trans h1.symm) (by omega)
  subst hzx
  unfold noteT
  rw [hz]
  unfold noteQ
  rw [if_neg hn]
  by_cases e1 : whom = 1
  · rw [if_pos e1]
  rw [if_neg e1]
  by_cases e2 : whom = dev
  · rw [if_pos e2]
  rw [if_neg e2, if_pos ⟨rfl, h2⟩]
theorem once_may {line : List Int} {owns : List OwnS} {l : List TxS} {dev note whom upto : Int} {deps : List Int} (hn : ¬ note = 0) (h : noteT line owns l dev note whom upto deps = true) : ¬ whom = 1 ∧ ¬ whom = dev ∧ ofV deps whom ≤ upto ∧ (note = 1 ∨ dev = 1 ∧ ofV deps whom = upto) := by
  unfold noteT noteQ at h
  rw [if_neg hn] at h
  by_cases e1 : whom = 1
  · rw [if_pos e1] at h; cases h
  rw [if_neg e1] at h
  by_cases e2 : whom = dev
  · rw [if_pos e2] at h; cases h
  rw [if_neg e2] at h
  split at h
  · cases h
  by_cases e3 : note = 1
  · rw [if_pos e3, Bool.and_eq_true, decide_eq_true_eq] at h
    exact ⟨e1, e2, h.1, .inl e3⟩
  rw [if_neg e3] at h
  split at h
  · rw [Bool.and_eq_true] at h
    have hr := h.2
    unfold retiresQ at hr
    rw [Bool.and_eq_true, Bool.and_eq_true, decide_eq_true_eq, decide_eq_true_eq] at hr
    exact ⟨e1, e2, by rw [hr.2.1]; exact Int.le_refl _, .inr ⟨hr.1, hr.2.1⟩⟩
  · cases h
set_option maxRecDepth 100000 in
set_option maxHeartbeats 16000000 in
theorem walk (v0 : Value) (line : List Int) (last : Int) (v2 : Value) (owns : List OwnS) (v3 : Value) (l : List TxS) (t : TxS) (w : World) (hv : Rd w v0 line.length (line.map ic)) (hw : ∀ d, -9223372036854775808 ≤ ofV line d) (_ : -9223372036854775808 ≤ last ∧ last ≤ 9223372036854775807) (how : Rd w v2 owns.length (owns.flatMap OwnS.cs)) (hl : LRd w v3 l) (_ : ∀ x ∈ l, x.Bd) (ht : t.Reads w) (_ : t.Bd) :
    Calls Try.prog 4 #[v0, .int .i64 last, v2, v3, t.agg] w fun e w' => e = .returned (.bool true) ∧ Below w.heap.size w w' := by
  obtain ⟨ga, gc, ev0, hn1v0, hn2v0, -, -⟩ := id hv
  unfold maxLen at hn2v0
  obtain ⟨m, hlm⟩ : ∃ m, line.length = m := ⟨_, rfl⟩
  rw [hlm] at ev0 hn1v0
  subst ev0
  have HLm := Lib.hid hlm
  clear hlm
  obtain ⟨oa, oc, ev2, hn1v2, hn2v2, -, -⟩ := id how
  unfold maxLen at hn2v2
  obtain ⟨no, hlno⟩ : ∃ no, owns.length = no := ⟨_, rfl⟩
  rw [hlno] at ev2 hn1v2
  subst ev2
  have HLno := Lib.hid hlno
  clear hlno
  obtain ⟨la, lc, ev3, hn1v3, hn2v3, -, -⟩ := id hl.1
  unfold maxLen at hn2v3
  obtain ⟨n, hln⟩ : ∃ n, l.length = n := ⟨_, rfl⟩
  rw [hln] at ev3 hn1v3
  subst ev3
  have HLn := Lib.hid hln
  clear hln
  obtain ⟨w1, hw1⟩ : ∃ w1, w.alloc (.cells #[.int .i64 t.dev, .int .i64 t.seq, .int .i64 t.time, .slice t.ad t.nd t.cd, .slice t.ao t.no t.co, .slice t.ae t.ne t.ce, .bool t.fm, .slice t.ah t.nh t.ch, .int .i64 t.note, .int .i64 t.whom, .int .i64 t.upto] 31) = w1 := ⟨_, rfl⟩
  have hbw1 : Below w.heap.size w w1 := by rw [← hw1]; exact below_alloc _ _
  have hT : Bx w1 w.heap.size #[.int .i64 t.dev, .int .i64 t.seq, .int .i64 t.time, .slice t.ad t.nd t.cd, .slice t.ao t.no t.co, .slice t.ae t.ne t.ce, .bool t.fm, .slice t.ah t.nh t.ch, .int .i64 t.note, .int .i64 t.whom, .int .i64 t.upto] 31 := by rw [← hw1]; exact bx_new rfl
  have HW1 := Lib.hid hw1
  have HT := Lib.hid hT
  have HB1 := Lib.hid hbw1
  have HV := Lib.hid (hv.later hbw1)
  have HW := Lib.hid hw
  have HOW := Lib.hid (how.later hbw1)
  have HL := Lib.hid (hl.later hbw1)
  have HTR := Lib.hid (ht.later hbw1)
  unfold TxS.agg
  clear hv hw how hl ht hw1 hbw1 hT
  go_enter Try.func4, Try.ntmps4
  go_wp2_with fail
  rw [HW1.out]
  refine (awk_any _).mono ?_
  rintro e wa ⟨rfl, hb⟩
  have HB := Lib.hid hb
  clear hb
  cases hf : fewL 20 l
  · have HF := Lib.hid hf
    clear hf
    go_wp2_with fail
    refine (few_b false HF.out (HL.out.later HB.out)).mono ?_
    rintro e wn ⟨rfl, hb⟩
    replace HB := Lib.hid (below_then HB.out hb)
    clear hb
    go_wp2_with fail
    go_ret
    exact ⟨rfl, below_then HB1.out HB.out⟩
  have HF := Lib.hid hf
  have hff := fewL_facts hf
  have hn20 : n ≤ 20 := by have := hff.1; have := HLn.out; omega
  have HHD := Lib.hid (fewL_hands HL.out hf)
  clear hf hff
  go_wp2_with fail
  refine (few_b true HF.out (HL.out.later HB.out)).mono ?_
  rintro e wn ⟨rfl, hb⟩
  replace HB := Lib.hid (below_then HB.out hb)
  clear hb
  have p0 := cell_of_box (bx_later HB.out HT.out) 0 rfl
  have p1 := cell_of_box (bx_later HB.out HT.out) 1 rfl
  have p2 := cell_of_box (bx_later HB.out HT.out) 2 rfl
  have p3 := cell_of_box (bx_later HB.out HT.out) 3 rfl
  have p4 := cell_of_box (bx_later HB.out HT.out) 4 rfl
  have p5 := cell_of_box (bx_later HB.out HT.out) 5 rfl
  have p6 := cell_of_box (bx_later HB.out HT.out) 6 rfl
  have p7 := cell_of_box (bx_later HB.out HT.out) 7 rfl
  have p8 := cell_of_box (bx_later HB.out HT.out) 8 rfl
  have p9 := cell_of_box (bx_later HB.out HT.out) 9 rfl
  have p10 := cell_of_box (bx_later HB.out HT.out) 10 rfl
  cases hf2 : fewL 20 [t]
  · have HF2 := Lib.hid hf2
    clear hf2
    go_wp2_with fail
    refine (few_b false HF2.out (lrd_one (HTR.out.later HB.out))).mono ?_
    rintro e wm ⟨rfl, hb⟩
    replace hb := below_then (below_alloc _ _) hb
    replace HB := Lib.hid (below_then HB.out hb)
    clear hb
    clear p0 p1 p2 p3 p4 p5 p6 p7 p8 p9 p10
    go_wp2_with fail
    go_ret
    exact ⟨rfl, below_then HB1.out HB.out⟩
  have HF2 := Lib.hid hf2
  clear hf2
  go_wp2_with fail
  refine (few_b true HF2.out (lrd_one (HTR.out.later HB.out))).mono ?_
  rintro e wm ⟨rfl, hb⟩
  replace hb := below_then (below_alloc _ _) hb
  replace HB := Lib.hid (below_then HB.out hb)
  clear hb
  clear p0 p1 p2 p3 p4 p5 p6 p7 p8 p9 p10
  have p0 := cell_of_box (bx_later HB.out HT.out) 0 rfl
  have p1 := cell_of_box (bx_later HB.out HT.out) 1 rfl
  have p2 := cell_of_box (bx_later HB.out HT.out) 2 rfl
  have p3 := cell_of_box (bx_later HB.out HT.out) 3 rfl
  have p4 := cell_of_box (bx_later HB.out HT.out) 4 rfl
  have p5 := cell_of_box (bx_later HB.out HT.out) 5 rfl
  have p6 := cell_of_box (bx_later HB.out HT.out) 6 rfl
  have p7 := cell_of_box (bx_later HB.out HT.out) 7 rfl
  have p8 := cell_of_box (bx_later HB.out HT.out) 8 rfl
  have p9 := cell_of_box (bx_later HB.out HT.out) 9 rfl
  have p10 := cell_of_box (bx_later HB.out HT.out) 10 rfl
  by_cases hm : m ≤ 100
  case neg =>
    have hm1 : decide ((100 : Int) < (m : Int)) = true := decide_eq_true (by omega)
    have hm2 : decide (100 < m) = true := decide_eq_true (by omega)
    go_wp2_with fail
    go_ret
    exact ⟨rfl, below_then HB1.out HB.out⟩
  have hm1 : decide ((100 : Int) < (m : Int)) = false := decide_eq_false (by omega)
  have hm2 : decide (100 < m) = false := decide_eq_false (by omega)
  by_cases ho : no ≤ 70
  case neg =>
    have ho1 : decide ((70 : Int) < (no : Int)) = true := decide_eq_true (by omega)
    have ho2 : decide (70 < no) = true := decide_eq_true (by omega)
    go_wp2_with fail
    go_ret
    exact ⟨rfl, below_then HB1.out HB.out⟩
  have ho1 : decide ((70 : Int) < (no : Int)) = false := decide_eq_false (by omega)
  have ho2 : decide (70 < no) = false := decide_eq_false (by omega)
  cases hnt : (t.note == 0)
  case true =>
    go_wp2_with fail
    go_ret
    exact ⟨rfl, below_then HB1.out HB.out⟩
  have HNT := Lib.hid hnt
  cases hc : closedT line last l
  · have HC := Lib.hid hc
    clear hc
    go_wp2_with fail
    refine (closed_b false HC.out (HV.out.later HB.out) (HL.out.later HB.out) HW.out (by have := HLn.out; omega)).mono ?_
    rintro e wn ⟨rfl, hb⟩
    replace HB := Lib.hid (below_then HB.out hb)
    clear hb
    clear p0 p1 p2 p3 p4 p5 p6 p7 p8 p9 p10
    go_wp2_with fail
    go_ret
    exact ⟨rfl, below_then HB1.out HB.out⟩
  have HC := Lib.hid hc
  have HCL := Lib.hid (closed_iff.1 hc)
  clear hc
  go_wp2_with fail
  refine (closed_b true HC.out (HV.out.later HB.out) (HL.out.later HB.out) HW.out (by have := HLn.out; omega)).mono ?_
  rintro e w2 ⟨rfl, hb⟩
  replace HB := Lib.hid (below_then HB.out hb)
  clear hb
  clear p0 p1 p2 p3 p4 p5 p6 p7 p8 p9 p10
  clear hm1 hm2 ho1 ho2 hnt
  have p0 := cell_of_box (bx_later HB.out HT.out) 0 rfl
  have p1 := cell_of_box (bx_later HB.out HT.out) 1 rfl
  have p2 := cell_of_box (bx_later HB.out HT.out) 2 rfl
  have p3 := cell_of_box (bx_later HB.out HT.out) 3 rfl
  have p4 := cell_of_box (bx_later HB.out HT.out) 4 rfl
  have p5 := cell_of_box (bx_later HB.out HT.out) 5 rfl
  have p6 := cell_of_box (bx_later HB.out HT.out) 6 rfl
  have p7 := cell_of_box (bx_later HB.out HT.out) 7 rfl
  have p8 := cell_of_box (bx_later HB.out HT.out) 8 rfl
  have p9 := cell_of_box (bx_later HB.out HT.out) 9 rfl
  have p10 := cell_of_box (bx_later HB.out HT.out) 10 rfl
  obtain ⟨may, hmay⟩ : ∃ may, noteT line owns l t.dev t.note t.whom t.upto t.deps = may := ⟨_, rfl⟩
  have HMAY := Lib.hid hmay
  clear hmay
  go_wp2_with fail
  refine (note_b HMAY.out (HV.out.later HB.out) (HOW.out.later HB.out) (HL.out.later HB.out) (HTR.out.later HB.out).deps' (by have := HLm.out; omega) (by have := HLno.out; omega) HHD.out (by have := HLn.out; omega)).mono ?_
  rintro e w3 ⟨rfl, hb⟩
  replace HB := Lib.hid (below_then HB.out hb)
  clear hb
  clear p0 p1 p2 p3 p4 p5 p6 p7 p8 p9 p10
  have p0 := cell_of_box (bx_later HB.out HT.out) 0 rfl
  have p1 := cell_of_box (bx_later HB.out HT.out) 1 rfl
  have p2 := cell_of_box (bx_later HB.out HT.out) 2 rfl
  have p3 := cell_of_box (bx_later HB.out HT.out) 3 rfl
  have p4 := cell_of_box (bx_later HB.out HT.out) 4 rfl
  have p5 := cell_of_box (bx_later HB.out HT.out) 5 rfl
  have p6 := cell_of_box (bx_later HB.out HT.out) 6 rfl
  have p7 := cell_of_box (bx_later HB.out HT.out) 7 rfl
  have p8 := cell_of_box (bx_later HB.out HT.out) 8 rfl
  have p9 := cell_of_box (bx_later HB.out HT.out) 9 rfl
  have p10 := cell_of_box (bx_later HB.out HT.out) 10 rfl
  go_wp2_with fail
  refine (past_any (deps := t.deps) _ (HL.out.later HB.out) (HTR.out.later HB.out).deps' (by have := HLn.out; omega)).mono ?_
  rintro e w4 ⟨vp, rfl, hP, hb⟩
  replace HB := Lib.hid (below_then HB.out hb)
  clear hb
  clear p0 p1 p2 p3 p4 p5 p6 p7 p8 p9 p10
  obtain ⟨P, hpe⟩ : ∃ P, pastT l t.deps = P := ⟨_, rfl⟩
  rw [hpe] at hP
  have hlenP : P.length ≤ n := by have := pastT_len l t.deps; rw [hpe] at this; have := HLn.out; omega
  have HEP := Lib.hid hpe
  clear hpe
  obtain ⟨pa, pc, ev, hnnp, hmnp, -, -⟩ := id hP.1
  unfold maxLen at hmnp
  obtain ⟨np, hlnp⟩ : ∃ np, P.length = np := ⟨_, rfl⟩
  rw [hlnp] at ev hnnp
  subst ev
  have HLnp := Lib.hid hlnp
  clear hlnp
  have HP := Lib.hid hP
  have hnp20 : np ≤ 20 := by have := HLnp.out; omega
  clear hP hlenP
  go_wp2_with fail
  go_loopw [14] (fun vi wr => ∃ i : Nat, i ≤ np ∧ vi = .int .i64 i ∧ Hid (Below w4.heap.size w4 wr)) (fun vi _ => np - (intOf vi).toNat)
  case atStart => exact ⟨0, Nat.zero_le _, by go_num, Below.refl _ _⟩
  case round =>
    obtain ⟨i, hi, rfl, HBK⟩ := hrel
    rename World => wk
    by_cases hlt : i < np
    · have hk2 : (i : Int) < (np : Int) := by omega
      have hi0 : (0 : Int) ≤ (i : Int) := by omega
      have hii : i < P.length := by have := HLnp.out; omega
      obtain ⟨x, hx⟩ : ∃ x, P[i] = x := ⟨_, rfl⟩
      have HMx : Hid (P[i]? = some x) := by show _ = _; rw [List.getElem?_eq_getElem hii, hx]
      have HIx : Hid (x ∈ P) := by show _ ∈ _; rw [← hx]; exact List.getElem_mem hii
      have HTx : Hid (P.take (i + 1) = P.take i ++ [x]) := by show _ = _; rw [List.take_succ_eq_append_getElem hii, hx]
      have hlr := (HP.out.later HBK.out).1
      rw [HLnp.out] at hlr
      obtain ⟨bbx, oox, ex, c0, c1, c2, c3, c4, c5, c6, c7, c8, c9, c10, -⟩ := rd_txs hlr HLnp.out.symm i hii hx
      clear hlr hx hii
      clear ex c0 c1 c2 c3 c4 c5 c6 c7 c8 c9 c10
      go_wp2_with fail
      go_loopw [16, 15] (fun vi vt wr => ∃ k : Nat, k ≤ np ∧ vi = .int .i64 k ∧ vt = .bool ((P.take k).any (laterQ t.whom x)) ∧ Hid (Below wk.heap.size wk wr)) (fun vi _ _ => np - (intOf vi).toNat)
      case atStart => exact ⟨0, Nat.zero_le _, by go_num, by simp, Below.refl _ _⟩
      case round =>
        obtain ⟨k, hk, rfl, rfl, HBI⟩ := hrel
        rename World => wi
        by_cases hlk : k < np
        · have hk4 : (k : Int) < (np : Int) := by omega
          have hk0 : (0 : Int) ≤ (k : Int) := by omega
          have hik : k < P.length := by have := HLnp.out; omega
          obtain ⟨y, hy⟩ : ∃ y, P[k] = y := ⟨_, rfl⟩
          have HMy : Hid (P[k]? = some y) := by show _ = _; rw [List.getElem?_eq_getElem hik, hy]
          have HIy : Hid (y ∈ P) := by show _ ∈ _; rw [← hy]; exact List.getElem_mem hik
          have HTy : Hid (P.take (k + 1) = P.take k ++ [y]) := by show _ = _; rw [List.take_succ_eq_append_getElem hik, hy]
          have hlr := (HP.out.later (below_then HBK.out HBI.out)).1
          rw [HLnp.out] at hlr
          obtain ⟨bby, ooy, ey, d0, d1, d2, d3, d4, d5, d6, d7, d8, d9, d10, -⟩ := rd_txs hlr HLnp.out.symm k hik hy
          clear hlr hy hik
          obtain ⟨hqx, hgx⟩ := List.getElem?_eq_some_iff.1 HMx.out
          have hlr := (HP.out.later (below_then HBK.out HBI.out)).1
          rw [HLnp.out] at hlr
          obtain ⟨bbx, oox, ex, c0, c1, c2, c3, c4, c5, c6, c7, c8, c9, c10, -⟩ := rd_txs hlr HLnp.out.symm i hqx hgx
          clear hlr hqx hgx
          have p0 := cell_of_box (bx_later (below_then HB.out (below_then HBK.out HBI.out)) HT.out) 0 rfl
          have p1 := cell_of_box (bx_later (below_then HB.out (below_then HBK.out HBI.out)) HT.out) 1 rfl
          have p2 := cell_of_box (bx_later (below_then HB.out (below_then HBK.out HBI.out)) HT.out) 2 rfl
          have p3 := cell_of_box (bx_later (below_then HB.out (below_then HBK.out HBI.out)) HT.out) 3 rfl
          have p4 := cell_of_box (bx_later (below_then HB.out (below_then HBK.out HBI.out)) HT.out) 4 rfl
          have p5 := cell_of_box (bx_later (below_then HB.out (below_then HBK.out HBI.out)) HT.out) 5 rfl
          have p6 := cell_of_box (bx_later (below_then HB.out (below_then HBK.out HBI.out)) HT.out) 6 rfl
          have p7 := cell_of_box (bx_later (below_then HB.out (below_then HBK.out HBI.out)) HT.out) 7 rfl
          have p8 := cell_of_box (bx_later (below_then HB.out (below_then HBK.out HBI.out)) HT.out) 8 rfl
          have p9 := cell_of_box (bx_later (below_then HB.out (below_then HBK.out HBI.out)) HT.out) 9 rfl
          have p10 := cell_of_box (bx_later (below_then HB.out (below_then HBK.out HBI.out)) HT.out) 10 rfl
          have hnx : (P.take (k + 1)).any (laterQ t.whom x) = ((P.take k).any (laterQ t.whom x) || laterQ t.whom x y) := by rw [HTy.out, List.any_append]; simp
          have HNX := Lib.hid hnx
          clear hnx
          cases hth : (P.take k).any (laterQ t.whom x)
          · cases h1 : (y.dev == 1)
            · have HLQ : Hid (laterQ t.whom x y = false) := by show _ = _; unfold laterQ; rw [h1]; rfl
              go_wp2_with fail
              refine wp_region_flow (by kernel_rfl) 41 [] (by kernel_rfl) ?_ ?_ ?_
              · intro x hx; cases hx
              · intro x hx; cases hx
              · intro lo hi
                have kc1 := cell_regrown c1
                have kd0 := cell_regrown d0
                have kd1 := cell_regrown d1
                have kd8 := cell_regrown d8
                have kd9 := cell_regrown d9
                have kp9 := cell_regrown p9
                refine flowW_plain rfl ?_
                go_big_quiet_step (fail)
                refine wpQuiet_nil ?_
                refine flowW_plain rfl ?_
                go_big_quiet_step (fail)
                refine wpQuiet_nil ?_
                refine flowW_plain rfl ?_
                go_big_quiet_step (fail)
                refine wpQuiet_nil ?_
                refine flowW_plain rfl ?_
                go_big_quiet_step (fail)
                refine wpQuiet_nil ?_
                refine flowW_plain rfl ?_
                go_big_quiet_step (fail)
                refine wpQuiet_nil ?_
                refine flowW_plain rfl ?_
                go_big_quiet_step (fail)
                refine wpQuiet_nil ?_
                refine flowW_plain rfl ?_
                go_big_quiet_step (fail)
                refine wpQuiet_nil ?_
                refine flowW_plain rfl ?_
                go_big_quiet_step (fail)
                refine wpQuiet_nil ?_
                refine flowW_plain rfl ?_
                go_big_quiet_step (fail)
                refine wpQuiet_nil ?_
                refine flowW_skip rfl ?_
                go_big_quiet_step (fail)
                refine wpQuiet_nil ?_
                refine flowW_skip rfl ?_
                go_big_quiet_step (fail)
                refine wpQuiet_nil ?_
                refine flowW_skip rfl ?_
                go_big_quiet_step (fail)
                refine wpQuiet_nil ?_
                refine flowW_skip rfl ?_
                go_big_quiet_step (fail)
                refine wpQuiet_nil ?_
                refine flowW_skip rfl ?_
                go_big_quiet_step (fail)
                refine wpQuiet_nil ?_
                refine flowW_skip rfl ?_
                go_big_quiet_step (fail)
                refine wpQuiet_nil ?_
                refine flowW_skip rfl ?_
                go_big_quiet_step (fail)
                refine wpQuiet_nil ?_
                refine flowW_skip rfl ?_
                go_big_quiet_step (fail)
                refine wpQuiet_nil ?_
                refine flowW_skip rfl ?_
                go_big_quiet_step (fail)
                refine wpQuiet_nil ?_
                refine flowW_skip rfl ?_
                go_big_quiet_step (fail)
                refine wpQuiet_nil ?_
                refine flowW_skip rfl ?_
                go_big_quiet_step (fail)
                refine wpQuiet_nil ?_
                refine flowW_plain rfl ?_
                go_big_quiet_step (fail)
                refine wpQuiet_nil ?_
                refine flowW_plain rfl ?_
                go_big_quiet_step (fail)
                refine wpQuiet_nil ?_
                refine flowW_skip rfl ?_
                go_big_quiet_step (fail)
                refine wpQuiet_nil ?_
                refine flowW_skip rfl ?_
                go_big_quiet_step (fail)
                refine wpQuiet_nil ?_
                refine flowW_skip rfl ?_
                go_big_quiet_step (fail)
                refine wpQuiet_nil ?_
                refine flowW_skip rfl ?_
                go_big_quiet_step (fail)
                refine wpQuiet_nil ?_
                refine flowW_skip rfl ?_
                go_big_quiet_step (fail)
                refine wpQuiet_nil ?_
                refine flowW_skip rfl ?_
                go_big_quiet_step (fail)
                refine wpQuiet_nil ?_
                refine flowW_plain rfl ?_
                go_big_quiet_step (fail)
                refine wpQuiet_nil ?_
                refine flowW_plain rfl ?_
                go_big_quiet_step (fail)
                refine wpQuiet_nil ?_
                refine flowW_skip rfl ?_
                go_big_quiet_step (fail)
                refine wpQuiet_nil ?_
                refine flowW_skip rfl ?_
                go_big_quiet_step (fail)
                refine wpQuiet_nil ?_
                refine flowW_skip rfl ?_
                go_big_quiet_step (fail)
                refine wpQuiet_nil ?_
                refine flowW_skip rfl ?_
                go_big_quiet_step (fail)
                refine wpQuiet_nil ?_
                refine flowW_skip rfl ?_
                go_big_quiet_step (fail)
                refine wpQuiet_nil ?_
                refine flowW_skip rfl ?_
                go_big_quiet_step (fail)
                refine wpQuiet_nil ?_
                refine flowW_skip rfl ?_
                go_big_quiet_step (fail)
                refine wpQuiet_nil ?_
                refine flowW_skip rfl ?_
                go_big_quiet_step (fail)
                refine wpQuiet_nil ?_
                refine flowW_plain rfl ?_
                go_big_quiet_step (fail)
                refine wpQuiet_nil ?_
                refine flowW_plain rfl ?_
                go_big_quiet_step (fail)
                refine wpQuiet_nil ?_
                refine flowW_plain rfl ?_
                go_big_quiet_step (fail)
                refine wpQuiet_nil ?_
                refine flowW_end fun wz hwz hF hD => ?_
                clear kc1 kd0 kd1 kd8 kd9 kp9
                simp only [List.drop_succ_cons, List.drop_zero]
                have HBQ := Lib.hid (below_then HBI.out hwz)
                clear hwz hF hD ex ey c0 c1 c2 c3 c4 c5 c6 c7 c8 c9 c10 d0 d1 d2 d3 d4 d5 d6 d7 d8 d9 d10 p0 p1 p2 p3 p4 p5 p6 p7 p8 p9 p10
                go_wp2_with fail
                go_roundw
                case rel => exact ⟨k + 1, by omega, by go_num, (by rw [HNX.out, HLQ.out]; simp [hth]), HBQ.out⟩
                case measure => simp [intOf]; omega
            · cases h2 : decide (x.seq < y.seq)
              · have HLQ : Hid (laterQ t.whom x y = false) := by show _ = _; unfold laterQ; rw [h1, h2]; rfl
                go_wp2_with fail
                refine wp_region_flow (by kernel_rfl) 41 [] (by kernel_rfl) ?_ ?_ ?_
                · intro x hx; cases hx
                · intro x hx; cases hx
                · intro lo hi
                  have kc1 := cell_regrown c1
                  have kd0 := cell_regrown d0
                  have kd1 := cell_regrown d1
                  have kd8 := cell_regrown d8
                  have kd9 := cell_regrown d9
                  have kp9 := cell_regrown p9
                  refine flowW_plain rfl ?_
                  go_big_quiet_step (fail)
                  refine wpQuiet_nil ?_
                  refine flowW_plain rfl ?_
                  go_big_quiet_step (fail)
                  refine wpQuiet_nil ?_
                  refine flowW_plain rfl ?_
                  go_big_quiet_step (fail)
                  refine wpQuiet_nil ?_
                  refine flowW_plain rfl ?_
                  go_big_quiet_step (fail)
                  refine wpQuiet_nil ?_
                  refine flowW_plain rfl ?_
                  go_big_quiet_step (fail)
                  refine wpQuiet_nil ?_
                  refine flowW_plain rfl ?_
                  go_big_quiet_step (fail)
                  refine wpQuiet_nil ?_
                  refine flowW_plain rfl ?_
                  go_big_quiet_step (fail)
                  refine wpQuiet_nil ?_
                  refine flowW_plain rfl ?_
                  go_big_quiet_step (fail)
                  refine wpQuiet_nil ?_
                  refine flowW_plain rfl ?_
                  go_big_quiet_step (fail)
                  refine wpQuiet_nil ?_
                  refine flowW_plain rfl ?_
                  go_big_quiet_step (fail)
                  refine wpQuiet_nil ?_
                  refine flowW_plain rfl ?_
                  go_big_quiet_step (fail)
                  refine wpQuiet_nil ?_
                  refine flowW_plain rfl ?_
                  go_big_quiet_step (fail)
                  refine wpQuiet_nil ?_
                  refine flowW_plain rfl ?_
                  go_big_quiet_step (fail)
                  refine wpQuiet_nil ?_
                  refine flowW_plain rfl ?_
                  go_big_quiet_step (fail)
                  refine wpQuiet_nil ?_
                  refine flowW_plain rfl ?_
                  go_big_quiet_step (fail)
                  refine wpQuiet_nil ?_
                  refine flowW_plain rfl ?_
                  go_big_quiet_step (fail)
                  refine wpQuiet_nil ?_
                  refine flowW_plain rfl ?_
                  go_big_quiet_step (fail)
                  refine wpQuiet_nil ?_
                  refine flowW_plain rfl ?_
                  go_big_quiet_step (fail)
                  refine wpQuiet_nil ?_
                  refine flowW_plain rfl ?_
                  go_big_quiet_step (fail)
                  refine wpQuiet_nil ?_
                  refine flowW_plain rfl ?_
                  go_big_quiet_step (fail)
                  refine wpQuiet_nil ?_
                  refine flowW_plain rfl ?_
                  go_big_quiet_step (fail)
                  refine wpQuiet_nil ?_
                  refine flowW_plain rfl ?_
                  go_big_quiet_step (fail)
                  refine wpQuiet_nil ?_
                  refine flowW_skip rfl ?_
                  go_big_quiet_step (fail)
                  refine wpQuiet_nil ?_
                  refine flowW_skip rfl ?_
                  go_big_quiet_step (fail)
                  refine wpQuiet_nil ?_
                  refine flowW_skip rfl ?_
                  go_big_quiet_step (fail)
                  refine wpQuiet_nil ?_
                  refine flowW_skip rfl ?_
                  go_big_quiet_step (fail)
                  refine wpQuiet_nil ?_
                  refine flowW_skip rfl ?_
                  go_big_quiet_step (fail)
                  refine wpQuiet_nil ?_
                  refine flowW_skip rfl ?_
                  go_big_quiet_step (fail)
                  refine wpQuiet_nil ?_
                  refine flowW_plain rfl ?_
                  go_big_quiet_step (fail)
                  refine wpQuiet_nil ?_
                  refine flowW_plain rfl ?_
                  go_big_quiet_step (fail)
                  refine wpQuiet_nil ?_
                  refine flowW_skip rfl ?_
                  go_big_quiet_step (fail)
                  refine wpQuiet_nil ?_
                  refine flowW_skip rfl ?_
                  go_big_quiet_step (fail)
                  refine wpQuiet_nil ?_
                  refine flowW_skip rfl ?_
                  go_big_quiet_step (fail)
                  refine wpQuiet_nil ?_
                  refine flowW_skip rfl ?_
                  go_big_quiet_step (fail)
                  refine wpQuiet_nil ?_
                  refine flowW_skip rfl ?_
                  go_big_quiet_step (fail)
                  refine wpQuiet_nil ?_
                  refine flowW_skip rfl ?_
                  go_big_quiet_step (fail)
                  refine wpQuiet_nil ?_
                  refine flowW_skip rfl ?_
                  go_big_quiet_step (fail)
                  refine wpQuiet_nil ?_
                  refine flowW_skip rfl ?_
                  go_big_quiet_step (fail)
                  refine wpQuiet_nil ?_
                  refine flowW_plain rfl ?_
                  go_big_quiet_step (fail)
                  refine wpQuiet_nil ?_
                  refine flowW_plain rfl ?_
                  go_big_quiet_step (fail)
                  refine wpQuiet_nil ?_
                  refine flowW_plain rfl ?_
                  go_big_quiet_step (fail)
                  refine wpQuiet_nil ?_
                  refine flowW_end fun wz hwz hF hD => ?_
                  clear kc1 kd0 kd1 kd8 kd9 kp9
                  simp only [List.drop_succ_cons, List.drop_zero]
                  have HBQ := Lib.hid (below_then HBI.out hwz)
                  clear hwz hF hD ex ey c0 c1 c2 c3 c4 c5 c6 c7 c8 c9 c10 d0 d1 d2 d3 d4 d5 d6 d7 d8 d9 d10 p0 p1 p2 p3 p4 p5 p6 p7 p8 p9 p10
                  go_wp2_with fail
                  go_roundw
                  case rel => exact ⟨k + 1, by omega, by go_num, (by rw [HNX.out, HLQ.out]; simp [hth]), HBQ.out⟩
                  case measure => simp [intOf]; omega
              · cases h3 : (y.note == 0)
                case true =>
                  have h3' : (y.note != 0) = false := by rw [bne, h3]; rfl
                  have HLQ : Hid (laterQ t.whom x y = false) := by show _ = _; unfold laterQ; rw [h1, h2, h3']; rfl
                  go_wp2_with fail
                  refine wp_region_flow (by kernel_rfl) 41 [] (by kernel_rfl) ?_ ?_ ?_
                  · intro x hx; cases hx
                  · intro x hx; cases hx
                  · intro lo hi
                    have kc1 := cell_regrown c1
                    have kd0 := cell_regrown d0
                    have kd1 := cell_regrown d1
                    have kd8 := cell_regrown d8
                    have kd9 := cell_regrown d9
                    have kp9 := cell_regrown p9
                    refine flowW_plain rfl ?_
                    go_big_quiet_step (fail)
                    refine wpQuiet_nil ?_
                    refine flowW_plain rfl ?_
                    go_big_quiet_step (fail)
                    refine wpQuiet_nil ?_
                    refine flowW_plain rfl ?_
                    go_big_quiet_step (fail)
                    refine wpQuiet_nil ?_
                    refine flowW_plain rfl ?_
                    go_big_quiet_step (fail)
                    refine wpQuiet_nil ?_
                    refine flowW_plain rfl ?_
                    go_big_quiet_step (fail)
                    refine wpQuiet_nil ?_
                    refine flowW_plain rfl ?_
                    go_big_quiet_step (fail)
                    refine wpQuiet_nil ?_
                    refine flowW_plain rfl ?_
                    go_big_quiet_step (fail)
                    refine wpQuiet_nil ?_
                    refine flowW_plain rfl ?_
                    go_big_quiet_step (fail)
                    refine wpQuiet_nil ?_
                    refine flowW_plain rfl ?_
                    go_big_quiet_step (fail)
                    refine wpQuiet_nil ?_
                    refine flowW_plain rfl ?_
                    go_big_quiet_step (fail)
                    refine wpQuiet_nil ?_
                    refine flowW_plain rfl ?_
                    go_big_quiet_step (fail)
                    refine wpQuiet_nil ?_
                    refine flowW_plain rfl ?_
                    go_big_quiet_step (fail)
                    refine wpQuiet_nil ?_
                    refine flowW_plain rfl ?_
                    go_big_quiet_step (fail)
                    refine wpQuiet_nil ?_
                    refine flowW_plain rfl ?_
                    go_big_quiet_step (fail)
                    refine wpQuiet_nil ?_
                    refine flowW_plain rfl ?_
                    go_big_quiet_step (fail)
                    refine wpQuiet_nil ?_
                    refine flowW_plain rfl ?_
                    go_big_quiet_step (fail)
                    refine wpQuiet_nil ?_
                    refine flowW_plain rfl ?_
                    go_big_quiet_step (fail)
                    refine wpQuiet_nil ?_
                    refine flowW_plain rfl ?_
                    go_big_quiet_step (fail)
                    refine wpQuiet_nil ?_
                    refine flowW_plain rfl ?_
                    go_big_quiet_step (fail)
                    refine wpQuiet_nil ?_
                    refine flowW_plain rfl ?_
                    go_big_quiet_step (fail)
                    refine wpQuiet_nil ?_
                    refine flowW_plain rfl ?_
                    go_big_quiet_step (fail)
                    refine wpQuiet_nil ?_
                    refine flowW_plain rfl ?_
                    go_big_quiet_step (fail)
                    refine wpQuiet_nil ?_
                    refine flowW_plain rfl ?_
                    go_big_quiet_step (fail)
                    refine wpQuiet_nil ?_
                    refine flowW_plain rfl ?_
                    go_big_quiet_step (fail)
                    refine wpQuiet_nil ?_
                    refine flowW_plain rfl ?_
                    go_big_quiet_step (fail)
                    refine wpQuiet_nil ?_
                    refine flowW_plain rfl ?_
                    go_big_quiet_step (fail)
                    refine wpQuiet_nil ?_
                    refine flowW_plain rfl ?_
                    go_big_quiet_step (fail)
                    refine wpQuiet_nil ?_
                    refine flowW_plain rfl ?_
                    go_big_quiet_step (fail)
                    refine wpQuiet_nil ?_
                    refine flowW_plain rfl ?_
                    go_big_quiet_step (fail)
                    refine wpQuiet_nil ?_
                    refine flowW_plain rfl ?_
                    go_big_quiet_step (fail)
                    refine wpQuiet_nil ?_
                    refine flowW_skip rfl ?_
                    go_big_quiet_step (fail)
                    refine wpQuiet_nil ?_
                    refine flowW_skip rfl ?_
                    go_big_quiet_step (fail)
                    refine wpQuiet_nil ?_
                    refine flowW_skip rfl ?_
                    go_big_quiet_step (fail)
                    refine wpQuiet_nil ?_
                    refine flowW_skip rfl ?_
                    go_big_quiet_step (fail)
                    refine wpQuiet_nil ?_
                    refine flowW_skip rfl ?_
                    go_big_quiet_step (fail)
                    refine wpQuiet_nil ?_
                    refine flowW_skip rfl ?_
                    go_big_quiet_step (fail)
                    refine wpQuiet_nil ?_
                    refine flowW_skip rfl ?_
                    go_big_quiet_step (fail)
                    refine wpQuiet_nil ?_
                    refine flowW_skip rfl ?_
                    go_big_quiet_step (fail)
                    refine wpQuiet_nil ?_
                    refine flowW_plain rfl ?_
                    go_big_quiet_step (fail)
                    refine wpQuiet_nil ?_
                    refine flowW_plain rfl ?_
                    go_big_quiet_step (fail)
                    refine wpQuiet_nil ?_
                    refine flowW_plain rfl ?_
                    go_big_quiet_step (fail)
                    refine wpQuiet_nil ?_
                    refine flowW_end fun wz hwz hF hD => ?_
                    clear kc1 kd0 kd1 kd8 kd9 kp9
                    simp only [List.drop_succ_cons, List.drop_zero]
                    have HBQ := Lib.hid (below_then HBI.out hwz)
                    clear hwz hF hD ex ey c0 c1 c2 c3 c4 c5 c6 c7 c8 c9 c10 d0 d1 d2 d3 d4 d5 d6 d7 d8 d9 d10 p0 p1 p2 p3 p4 p5 p6 p7 p8 p9 p10
                    go_wp2_with fail
                    go_roundw
                    case rel => exact ⟨k + 1, by omega, by go_num, (by rw [HNX.out, HLQ.out]; simp [hth]), HBQ.out⟩
                    case measure => simp [intOf]; omega
                have h3' : (y.note != 0) = true := by rw [bne, h3]; rfl
                cases h4 : (y.whom == t.whom)
                · have HLQ : Hid (laterQ t.whom x y = false) := by show _ = _; unfold laterQ; rw [h1, h2, h3', h4]; rfl
                  go_wp2_with fail
                  refine wp_region_flow (by kernel_rfl) 41 [] (by kernel_rfl) ?_ ?_ ?_
                  · intro x hx; cases hx
                  · intro x hx; cases hx
                  · intro lo hi
                    have kc1 := cell_regrown c1
                    have kd0 := cell_regrown d0
                    have kd1 := cell_regrown d1
                    have kd8 := cell_regrown d8
                    have kd9 := cell_regrown d9
                    have kp9 := cell_regrown p9
                    refine flowW_plain rfl ?_
                    go_big_quiet_step (fail)
                    refine wpQuiet_nil ?_
                    refine flowW_plain rfl ?_
                    go_big_quiet_step (fail)
                    refine wpQuiet_nil ?_
                    refine flowW_plain rfl ?_
                    go_big_quiet_step (fail)
                    refine wpQuiet_nil ?_
                    refine flowW_plain rfl ?_
                    go_big_quiet_step (fail)
                    refine wpQuiet_nil ?_
                    refine flowW_plain rfl ?_
                    go_big_quiet_step (fail)
                    refine wpQuiet_nil ?_
                    refine flowW_plain rfl ?_
                    go_big_quiet_step (fail)
                    refine wpQuiet_nil ?_
                    refine flowW_plain rfl ?_
                    go_big_quiet_step (fail)
                    refine wpQuiet_nil ?_
                    refine flowW_plain rfl ?_
                    go_big_quiet_step (fail)
                    refine wpQuiet_nil ?_
                    refine flowW_plain rfl ?_
                    go_big_quiet_step (fail)
                    refine wpQuiet_nil ?_
                    refine flowW_plain rfl ?_
                    go_big_quiet_step (fail)
                    refine wpQuiet_nil ?_
                    refine flowW_plain rfl ?_
                    go_big_quiet_step (fail)
                    refine wpQuiet_nil ?_
                    refine flowW_plain rfl ?_
                    go_big_quiet_step (fail)
                    refine wpQuiet_nil ?_
                    refine flowW_plain rfl ?_
                    go_big_quiet_step (fail)
                    refine wpQuiet_nil ?_
                    refine flowW_plain rfl ?_
                    go_big_quiet_step (fail)
                    refine wpQuiet_nil ?_
                    refine flowW_plain rfl ?_
                    go_big_quiet_step (fail)
                    refine wpQuiet_nil ?_
                    refine flowW_plain rfl ?_
                    go_big_quiet_step (fail)
                    refine wpQuiet_nil ?_
                    refine flowW_plain rfl ?_
                    go_big_quiet_step (fail)
                    refine wpQuiet_nil ?_
                    refine flowW_plain rfl ?_
                    go_big_quiet_step (fail)
                    refine wpQuiet_nil ?_
                    refine flowW_plain rfl ?_
                    go_big_quiet_step (fail)
                    refine wpQuiet_nil ?_
                    refine flowW_plain rfl ?_
                    go_big_quiet_step (fail)
                    refine wpQuiet_nil ?_
                    refine flowW_plain rfl ?_
                    go_big_quiet_step (fail)
                    refine wpQuiet_nil ?_
                    refine flowW_plain rfl ?_
                    go_big_quiet_step (fail)
                    refine wpQuiet_nil ?_
                    refine flowW_plain rfl ?_
                    go_big_quiet_step (fail)
                    refine wpQuiet_nil ?_
                    refine flowW_plain rfl ?_
                    go_big_quiet_step (fail)
                    refine wpQuiet_nil ?_
                    refine flowW_plain rfl ?_
                    go_big_quiet_step (fail)
                    refine wpQuiet_nil ?_
                    refine flowW_plain rfl ?_
                    go_big_quiet_step (fail)
                    refine wpQuiet_nil ?_
                    refine flowW_plain rfl ?_
                    go_big_quiet_step (fail)
                    refine wpQuiet_nil ?_
                    refine flowW_plain rfl ?_
                    go_big_quiet_step (fail)
                    refine wpQuiet_nil ?_
                    refine flowW_plain rfl ?_
                    go_big_quiet_step (fail)
                    refine wpQuiet_nil ?_
                    refine flowW_plain rfl ?_
                    go_big_quiet_step (fail)
                    refine wpQuiet_nil ?_
                    refine flowW_plain rfl ?_
                    go_big_quiet_step (fail)
                    refine wpQuiet_nil ?_
                    refine flowW_plain rfl ?_
                    go_big_quiet_step (fail)
                    refine wpQuiet_nil ?_
                    refine flowW_plain rfl ?_
                    go_big_quiet_step (fail)
                    refine wpQuiet_nil ?_
                    refine flowW_plain rfl ?_
                    go_big_quiet_step (fail)
                    refine wpQuiet_nil ?_
                    refine flowW_plain rfl ?_
                    go_big_quiet_step (fail)
                    refine wpQuiet_nil ?_
                    refine flowW_plain rfl ?_
                    go_big_quiet_step (fail)
                    refine wpQuiet_nil ?_
                    refine flowW_plain rfl ?_
                    go_big_quiet_step (fail)
                    refine wpQuiet_nil ?_
                    refine flowW_plain rfl ?_
                    go_big_quiet_step (fail)
                    refine wpQuiet_nil ?_
                    refine flowW_plain rfl ?_
                    go_big_quiet_step (fail)
                    refine wpQuiet_nil ?_
                    refine flowW_plain rfl ?_
                    go_big_quiet_step (fail)
                    refine wpQuiet_nil ?_
                    refine flowW_plain rfl ?_
                    go_big_quiet_step (fail)
                    refine wpQuiet_nil ?_
                    refine flowW_end fun wz hwz hF hD => ?_
                    clear kc1 kd0 kd1 kd8 kd9 kp9
                    simp only [List.drop_succ_cons, List.drop_zero]
                    have HBQ := Lib.hid (below_then HBI.out hwz)
                    clear hwz hF hD ex ey c0 c1 c2 c3 c4 c5 c6 c7 c8 c9 c10 d0 d1 d2 d3 d4 d5 d6 d7 d8 d9 d10 p0 p1 p2 p3 p4 p5 p6 p7 p8 p9 p10
                    go_wp2_with fail
                    go_roundw
                    case rel => exact ⟨k + 1, by omega, by go_num, (by rw [HNX.out, HLQ.out]; simp [hth]), HBQ.out⟩
                    case measure => simp [intOf]; omega
                · have HLQ : Hid (laterQ t.whom x y = true) := by show _ = _; unfold laterQ; rw [h1, h2, h3', h4]; rfl
                  go_wp2_with fail
                  refine wp_region_flow (by kernel_rfl) 41 [] (by kernel_rfl) ?_ ?_ ?_
                  · intro x hx; cases hx
                  · intro x hx; cases hx
                  · intro lo hi
                    have kc1 := cell_regrown c1
                    have kd0 := cell_regrown d0
                    have kd1 := cell_regrown d1
                    have kd8 := cell_regrown d8
                    have kd9 := cell_regrown d9
                    have kp9 := cell_regrown p9
                    refine flowW_plain rfl ?_
                    go_big_quiet_step (fail)
                    refine wpQuiet_nil ?_
                    refine flowW_plain rfl ?_
                    go_big_quiet_step (fail)
                    refine wpQuiet_nil ?_
                    refine flowW_plain rfl ?_
                    go_big_quiet_step (fail)
                    refine wpQuiet_nil ?_
                    refine flowW_plain rfl ?_
                    go_big_quiet_step (fail)
                    refine wpQuiet_nil ?_
                    refine flowW_plain rfl ?_
                    go_big_quiet_step (fail)
                    refine wpQuiet_nil ?_
                    refine flowW_plain rfl ?_
                    go_big_quiet_step (fail)
                    refine wpQuiet_nil ?_
                    refine flowW_plain rfl ?_
                    go_big_quiet_step (fail)
                    refine wpQuiet_nil ?_
                    refine flowW_plain rfl ?_
                    go_big_quiet_step (fail)
                    refine wpQuiet_nil ?_
                    refine flowW_plain rfl ?_
                    go_big_quiet_step (fail)
                    refine wpQuiet_nil ?_
                    refine flowW_plain rfl ?_
                    go_big_quiet_step (fail)
                    refine wpQuiet_nil ?_
                    refine flowW_plain rfl ?_
                    go_big_quiet_step (fail)
                    refine wpQuiet_nil ?_
                    refine flowW_plain rfl ?_
                    go_big_quiet_step (fail)
                    refine wpQuiet_nil ?_
                    refine flowW_plain rfl ?_
                    go_big_quiet_step (fail)
                    refine wpQuiet_nil ?_
                    refine flowW_plain rfl ?_
                    go_big_quiet_step (fail)
                    refine wpQuiet_nil ?_
                    refine flowW_plain rfl ?_
                    go_big_quiet_step (fail)
                    refine wpQuiet_nil ?_
                    refine flowW_plain rfl ?_
                    go_big_quiet_step (fail)
                    refine wpQuiet_nil ?_
                    refine flowW_plain rfl ?_
                    go_big_quiet_step (fail)
                    refine wpQuiet_nil ?_
                    refine flowW_plain rfl ?_
                    go_big_quiet_step (fail)
                    refine wpQuiet_nil ?_
                    refine flowW_plain rfl ?_
                    go_big_quiet_step (fail)
                    refine wpQuiet_nil ?_
                    refine flowW_plain rfl ?_
                    go_big_quiet_step (fail)
                    refine wpQuiet_nil ?_
                    refine flowW_plain rfl ?_
                    go_big_quiet_step (fail)
                    refine wpQuiet_nil ?_
                    refine flowW_plain rfl ?_
                    go_big_quiet_step (fail)
                    refine wpQuiet_nil ?_
                    refine flowW_plain rfl ?_
                    go_big_quiet_step (fail)
                    refine wpQuiet_nil ?_
                    refine flowW_plain rfl ?_
                    go_big_quiet_step (fail)
                    refine wpQuiet_nil ?_
                    refine flowW_plain rfl ?_
                    go_big_quiet_step (fail)
                    refine wpQuiet_nil ?_
                    refine flowW_plain rfl ?_
                    go_big_quiet_step (fail)
                    refine wpQuiet_nil ?_
                    refine flowW_plain rfl ?_
                    go_big_quiet_step (fail)
                    refine wpQuiet_nil ?_
                    refine flowW_plain rfl ?_
                    go_big_quiet_step (fail)
                    refine wpQuiet_nil ?_
                    refine flowW_plain rfl ?_
                    go_big_quiet_step (fail)
                    refine wpQuiet_nil ?_
                    refine flowW_plain rfl ?_
                    go_big_quiet_step (fail)
                    refine wpQuiet_nil ?_
                    refine flowW_plain rfl ?_
                    go_big_quiet_step (fail)
                    refine wpQuiet_nil ?_
                    refine flowW_plain rfl ?_
                    go_big_quiet_step (fail)
                    refine wpQuiet_nil ?_
                    refine flowW_plain rfl ?_
                    go_big_quiet_step (fail)
                    refine wpQuiet_nil ?_
                    refine flowW_plain rfl ?_
                    go_big_quiet_step (fail)
                    refine wpQuiet_nil ?_
                    refine flowW_plain rfl ?_
                    go_big_quiet_step (fail)
                    refine wpQuiet_nil ?_
                    refine flowW_plain rfl ?_
                    go_big_quiet_step (fail)
                    refine wpQuiet_nil ?_
                    refine flowW_plain rfl ?_
                    go_big_quiet_step (fail)
                    refine wpQuiet_nil ?_
                    refine flowW_plain rfl ?_
                    go_big_quiet_step (fail)
                    refine wpQuiet_nil ?_
                    refine flowW_plain rfl ?_
                    go_big_quiet_step (fail)
                    refine wpQuiet_nil ?_
                    refine flowW_plain rfl ?_
                    go_big_quiet_step (fail)
                    refine wpQuiet_nil ?_
                    refine flowW_plain rfl ?_
                    go_big_quiet_step (fail)
                    refine wpQuiet_nil ?_
                    refine flowW_end fun wz hwz hF hD => ?_
                    clear kc1 kd0 kd1 kd8 kd9 kp9
                    simp only [List.drop_succ_cons, List.drop_zero]
                    have HBQ := Lib.hid (below_then HBI.out hwz)
                    clear hwz hF hD ex ey c0 c1 c2 c3 c4 c5 c6 c7 c8 c9 c10 d0 d1 d2 d3 d4 d5 d6 d7 d8 d9 d10 p0 p1 p2 p3 p4 p5 p6 p7 p8 p9 p10
                    go_wp2_with fail
                    go_roundw
                    case rel => exact ⟨k + 1, by omega, by go_num, (by rw [HNX.out, HLQ.out]; simp [hth]), HBQ.out⟩
                    case measure => simp [intOf]; omega
          · have HLQ : Hid (laterQ t.whom x y = laterQ t.whom x y) := by show _ = _; rfl
            go_wp2_with fail
            refine wp_region_flow (by kernel_rfl) 41 [] (by kernel_rfl) ?_ ?_ ?_
            · intro x hx; cases hx
            · intro x hx; cases hx
            · intro lo hi
              have kc1 := cell_regrown c1
              have kd0 := cell_regrown d0
              have kd1 := cell_regrown d1
              have kd8 := cell_regrown d8
              have kd9 := cell_regrown d9
              have kp9 := cell_regrown p9
              refine flowW_plain rfl ?_
              go_big_quiet_step (fail)
              refine wpQuiet_nil ?_
              refine flowW_plain rfl ?_
              go_big_quiet_step (fail)
              refine wpQuiet_nil ?_
              refine flowW_skip rfl ?_
              go_big_quiet_step (fail)
              refine wpQuiet_nil ?_
              refine flowW_skip rfl ?_
              go_big_quiet_step (fail)
              refine wpQuiet_nil ?_
              refine flowW_skip rfl ?_
              go_big_quiet_step (fail)
              refine wpQuiet_nil ?_
              refine flowW_skip rfl ?_
              go_big_quiet_step (fail)
              refine wpQuiet_nil ?_
              refine flowW_skip rfl ?_
              go_big_quiet_step (fail)
              refine wpQuiet_nil ?_
              refine flowW_skip rfl ?_
              go_big_quiet_step (fail)
              refine wpQuiet_nil ?_
              refine flowW_skip rfl ?_
              go_big_quiet_step (fail)
              refine wpQuiet_nil ?_
              refine flowW_skip rfl ?_
              go_big_quiet_step (fail)
              refine wpQuiet_nil ?_
              refine flowW_skip rfl ?_
              go_big_quiet_step (fail)
              refine wpQuiet_nil ?_
              refine flowW_skip rfl ?_
              go_big_quiet_step (fail)
              refine wpQuiet_nil ?_
              refine flowW_skip rfl ?_
              go_big_quiet_step (fail)
              refine wpQuiet_nil ?_
              refine flowW_skip rfl ?_
              go_big_quiet_step (fail)
              refine wpQuiet_nil ?_
              refine flowW_skip rfl ?_
              go_big_quiet_step (fail)
              refine wpQuiet_nil ?_
              refine flowW_skip rfl ?_
              go_big_quiet_step (fail)
              refine wpQuiet_nil ?_
              refine flowW_skip rfl ?_
              go_big_quiet_step (fail)
              refine wpQuiet_nil ?_
              refine flowW_skip rfl ?_
              go_big_quiet_step (fail)
              refine wpQuiet_nil ?_
              refine flowW_skip rfl ?_
              go_big_quiet_step (fail)
              refine wpQuiet_nil ?_
              refine flowW_skip rfl ?_
              go_big_quiet_step (fail)
              refine wpQuiet_nil ?_
              refine flowW_skip rfl ?_
              go_big_quiet_step (fail)
              refine wpQuiet_nil ?_
              refine flowW_skip rfl ?_
              go_big_quiet_step (fail)
              refine wpQuiet_nil ?_
              refine flowW_skip rfl ?_
              go_big_quiet_step (fail)
              refine wpQuiet_nil ?_
              refine flowW_skip rfl ?_
              go_big_quiet_step (fail)
              refine wpQuiet_nil ?_
              refine flowW_skip rfl ?_
              go_big_quiet_step (fail)
              refine wpQuiet_nil ?_
              refine flowW_skip rfl ?_
              go_big_quiet_step (fail)
              refine wpQuiet_nil ?_
              refine flowW_skip rfl ?_
              go_big_quiet_step (fail)
              refine wpQuiet_nil ?_
              refine flowW_skip rfl ?_
              go_big_quiet_step (fail)
              refine wpQuiet_nil ?_
              refine flowW_skip rfl ?_
              go_big_quiet_step (fail)
              refine wpQuiet_nil ?_
              refine flowW_skip rfl ?_
              go_big_quiet_step (fail)
              refine wpQuiet_nil ?_
              refine flowW_skip rfl ?_
              go_big_quiet_step (fail)
              refine wpQuiet_nil ?_
              refine flowW_skip rfl ?_
              go_big_quiet_step (fail)
              refine wpQuiet_nil ?_
              refine flowW_skip rfl ?_
              go_big_quiet_step (fail)
              refine wpQuiet_nil ?_
              refine flowW_skip rfl ?_
              go_big_quiet_step (fail)
              refine wpQuiet_nil ?_
              refine flowW_skip rfl ?_
              go_big_quiet_step (fail)
              refine wpQuiet_nil ?_
              refine flowW_skip rfl ?_
              go_big_quiet_step (fail)
              refine wpQuiet_nil ?_
              refine flowW_skip rfl ?_
              go_big_quiet_step (fail)
              refine wpQuiet_nil ?_
              refine flowW_skip rfl ?_
              go_big_quiet_step (fail)
              refine wpQuiet_nil ?_
              refine flowW_skip rfl ?_
              go_big_quiet_step (fail)
              refine wpQuiet_nil ?_
              refine flowW_plain rfl ?_
              go_big_quiet_step (fail)
              refine wpQuiet_nil ?_
              refine flowW_plain rfl ?_
              go_big_quiet_step (fail)
              refine wpQuiet_nil ?_
              refine flowW_end fun wz hwz hF hD => ?_
              clear kc1 kd0 kd1 kd8 kd9 kp9
              simp only [List.drop_succ_cons, List.drop_zero]
              have HBQ := Lib.hid (below_then HBI.out hwz)
              clear hwz hF hD ex ey c0 c1 c2 c3 c4 c5 c6 c7 c8 c9 c10 d0 d1 d2 d3 d4 d5 d6 d7 d8 d9 d10 p0 p1 p2 p3 p4 p5 p6 p7 p8 p9 p10
              go_wp2_with fail
              go_roundw
              case rel => exact ⟨k + 1, by omega, by go_num, (by rw [HNX.out]; simp [hth]), HBQ.out⟩
              case measure => simp [intOf]; omega
        · have hkn : np = k := by omega
          subst hkn
          have hk4 : ¬ (np : Int) < (np : Int) := by omega
          rw [List.take_of_length_le (by have := HLnp.out; omega)]
          have HBJ := Lib.hid (below_then HBK.out HBI.out)
          obtain ⟨hqx, hgx⟩ := List.getElem?_eq_some_iff.1 HMx.out
          have hlr := (HP.out.later HBJ.out).1
          rw [HLnp.out] at hlr
          obtain ⟨bbx, oox, ex, c0, c1, c2, c3, c4, c5, c6, c7, c8, c9, c10, -⟩ := rd_txs hlr HLnp.out.symm i hqx hgx
          clear hlr hqx hgx
          have p0 := cell_of_box (bx_later (below_then HB.out HBJ.out) HT.out) 0 rfl
          have p1 := cell_of_box (bx_later (below_then HB.out HBJ.out) HT.out) 1 rfl
          have p2 := cell_of_box (bx_later (below_then HB.out HBJ.out) HT.out) 2 rfl
          have p3 := cell_of_box (bx_later (below_then HB.out HBJ.out) HT.out) 3 rfl
          have p4 := cell_of_box (bx_later (below_then HB.out HBJ.out) HT.out) 4 rfl
          have p5 := cell_of_box (bx_later (below_then HB.out HBJ.out) HT.out) 5 rfl
          have p6 := cell_of_box (bx_later (below_then HB.out HBJ.out) HT.out) 6 rfl
          have p7 := cell_of_box (bx_later (below_then HB.out HBJ.out) HT.out) 7 rfl
          have p8 := cell_of_box (bx_later (below_then HB.out HBJ.out) HT.out) 8 rfl
          have p9 := cell_of_box (bx_later (below_then HB.out HBJ.out) HT.out) 9 rfl
          have p10 := cell_of_box (bx_later (below_then HB.out HBJ.out) HT.out) 10 rfl
          clear HBI
          cases g1 : (x.dev == 1)
          · go_wp2_with fail
            refine wp_region_flow (by kernel_rfl) 31 [] (by kernel_rfl) ?_ ?_ ?_
            · intro x hx; cases hx
            · intro x hx; cases hx
            · intro lo hi
              have kc0 := cell_regrown c0
              have kc8 := cell_regrown c8
              have kc9 := cell_regrown c9
              have kp9 := cell_regrown p9
              refine flowW_plain rfl ?_
              go_big_quiet_step (fail)
              refine wpQuiet_nil ?_
              refine flowW_plain rfl ?_
              go_big_quiet_step (fail)
              refine wpQuiet_nil ?_
              refine flowW_plain rfl ?_
              go_big_quiet_step (fail)
              refine wpQuiet_nil ?_
              refine flowW_plain rfl ?_
              go_big_quiet_step (fail)
              refine wpQuiet_nil ?_
              refine flowW_plain rfl ?_
              go_big_quiet_step (fail)
              refine wpQuiet_nil ?_
              refine flowW_plain rfl ?_
              go_big_quiet_step (fail)
              refine wpQuiet_nil ?_
              refine flowW_plain rfl ?_
              go_big_quiet_step (fail)
              refine wpQuiet_nil ?_
              refine flowW_skip rfl ?_
              go_big_quiet_step (fail)
              refine wpQuiet_nil ?_
              refine flowW_skip rfl ?_
              go_big_quiet_step (fail)
              refine wpQuiet_nil ?_
              refine flowW_skip rfl ?_
              go_big_quiet_step (fail)
              refine wpQuiet_nil ?_
              refine flowW_skip rfl ?_
              go_big_quiet_step (fail)
              refine wpQuiet_nil ?_
              refine flowW_skip rfl ?_
              go_big_quiet_step (fail)
              refine wpQuiet_nil ?_
              refine flowW_skip rfl ?_
              go_big_quiet_step (fail)
              refine wpQuiet_nil ?_
              refine flowW_plain rfl ?_
              go_big_quiet_step (fail)
              refine wpQuiet_nil ?_
              refine flowW_plain rfl ?_
              go_big_quiet_step (fail)
              refine wpQuiet_nil ?_
              refine flowW_skip rfl ?_
              go_big_quiet_step (fail)
              refine wpQuiet_nil ?_
              refine flowW_skip rfl ?_
              go_big_quiet_step (fail)
              refine wpQuiet_nil ?_
              refine flowW_skip rfl ?_
              go_big_quiet_step (fail)
              refine wpQuiet_nil ?_
              refine flowW_skip rfl ?_
              go_big_quiet_step (fail)
              refine wpQuiet_nil ?_
              refine flowW_skip rfl ?_
              go_big_quiet_step (fail)
              refine wpQuiet_nil ?_
              refine flowW_skip rfl ?_
              go_big_quiet_step (fail)
              refine wpQuiet_nil ?_
              refine flowW_skip rfl ?_
              go_big_quiet_step (fail)
              refine wpQuiet_nil ?_
              refine flowW_skip rfl ?_
              go_big_quiet_step (fail)
              refine wpQuiet_nil ?_
              refine flowW_plain rfl ?_
              go_big_quiet_step (fail)
              refine wpQuiet_nil ?_
              refine flowW_plain rfl ?_
              go_big_quiet_step (fail)
              refine wpQuiet_nil ?_
              refine flowW_skip rfl ?_
              go_big_quiet_step (fail)
              refine wpQuiet_nil ?_
              refine flowW_skip rfl ?_
              go_big_quiet_step (fail)
              refine wpQuiet_nil ?_
              refine flowW_plain rfl ?_
              go_big_quiet_step (fail)
              refine wpQuiet_nil ?_
              refine flowW_plain rfl ?_
              go_big_quiet_step (fail)
              refine wpQuiet_nil ?_
              refine flowW_skip rfl ?_
              go_big_quiet_step (fail)
              refine wpQuiet_nil ?_
              refine flowW_plain rfl ?_
              go_big_quiet_step (fail)
              refine wpQuiet_nil ?_
              refine flowW_end fun wz hwz hF hD => ?_
              clear kc0 kc8 kc9 kp9
              simp only [List.drop_succ_cons, List.drop_zero]
              have HBR := Lib.hid (below_then HBJ.out hwz)
              clear hwz hF hD ex c0 c1 c2 c3 c4 c5 c6 c7 c8 c9 c10 p0 p1 p2 p3 p4 p5 p6 p7 p8 p9 p10
              go_wp2_with fail
              go_roundw
              case rel => exact ⟨i + 1, by omega, by go_num, HBR.out⟩
              case measure => simp [intOf]; omega
          cases g2 : (x.note == 2)
          · go_wp2_with fail
            refine wp_region_flow (by kernel_rfl) 31 [] (by kernel_rfl) ?_ ?_ ?_
            · intro x hx; cases hx
            · intro x hx; cases hx
            · intro lo hi
              have kc0 := cell_regrown c0
              have kc8 := cell_regrown c8
              have kc9 := cell_regrown c9
              have kp9 := cell_regrown p9
              refine flowW_plain rfl ?_
              go_big_quiet_step (fail)
              refine wpQuiet_nil ?_
              refine flowW_plain rfl ?_
              go_big_quiet_step (fail)
              refine wpQuiet_nil ?_
              refine flowW_plain rfl ?_
              go_big_quiet_step (fail)
              refine wpQuiet_nil ?_
              refine flowW_plain rfl ?_
              go_big_quiet_step (fail)
              refine wpQuiet_nil ?_
              refine flowW_plain rfl ?_
              go_big_quiet_step (fail)
              refine wpQuiet_nil ?_
              refine flowW_plain rfl ?_
              go_big_quiet_step (fail)
              refine wpQuiet_nil ?_
              refine flowW_plain rfl ?_
              go_big_quiet_step (fail)
              refine wpQuiet_nil ?_
              refine flowW_plain rfl ?_
              go_big_quiet_step (fail)
              refine wpQuiet_nil ?_
              refine flowW_plain rfl ?_
              go_big_quiet_step (fail)
              refine wpQuiet_nil ?_
              refine flowW_plain rfl ?_
              go_big_quiet_step (fail)
              refine wpQuiet_nil ?_
              refine flowW_plain rfl ?_
              go_big_quiet_step (fail)
              refine wpQuiet_nil ?_
              refine flowW_plain rfl ?_
              go_big_quiet_step (fail)
              refine wpQuiet_nil ?_
              refine flowW_plain rfl ?_
              go_big_quiet_step (fail)
              refine wpQuiet_nil ?_
              refine flowW_plain rfl ?_
              go_big_quiet_step (fail)
              refine wpQuiet_nil ?_
              refine flowW_plain rfl ?_
              go_big_quiet_step (fail)
              refine wpQuiet_nil ?_
              refine flowW_skip rfl ?_
              go_big_quiet_step (fail)
              refine wpQuiet_nil ?_
              refine flowW_skip rfl ?_
              go_big_quiet_step (fail)
              refine wpQuiet_nil ?_
              refine flowW_skip rfl ?_
              go_big_quiet_step (fail)
              refine wpQuiet_nil ?_
              refine flowW_skip rfl ?_
              go_big_quiet_step (fail)
              refine wpQuiet_nil ?_
              refine flowW_skip rfl ?_
              go_big_quiet_step (fail)
              refine wpQuiet_nil ?_
              refine flowW_skip rfl ?_
              go_big_quiet_step (fail)
              refine wpQuiet_nil ?_
              refine flowW_skip rfl ?_
              go_big_quiet_step (fail)
              refine wpQuiet_nil ?_
              refine flowW_skip rfl ?_
              go_big_quiet_step (fail)
              refine wpQuiet_nil ?_
              refine flowW_plain rfl ?_
              go_big_quiet_step (fail)
              refine wpQuiet_nil ?_
              refine flowW_plain rfl ?_
              go_big_quiet_step (fail)
              refine wpQuiet_nil ?_
              refine flowW_skip rfl ?_
              go_big_quiet_step (fail)
              refine wpQuiet_nil ?_
              refine flowW_skip rfl ?_
              go_big_quiet_step (fail)
              refine wpQuiet_nil ?_
              refine flowW_plain rfl ?_
              go_big_quiet_step (fail)
              refine wpQuiet_nil ?_
              refine flowW_plain rfl ?_
              go_big_quiet_step (fail)
              refine wpQuiet_nil ?_
              refine flowW_skip rfl ?_
              go_big_quiet_step (fail)
              refine wpQuiet_nil ?_
              refine flowW_plain rfl ?_
              go_big_quiet_step (fail)
              refine wpQuiet_nil ?_
              refine flowW_end fun wz hwz hF hD => ?_
              clear kc0 kc8 kc9 kp9
              simp only [List.drop_succ_cons, List.drop_zero]
              have HBR := Lib.hid (below_then HBJ.out hwz)
              clear hwz hF hD ex c0 c1 c2 c3 c4 c5 c6 c7 c8 c9 c10 p0 p1 p2 p3 p4 p5 p6 p7 p8 p9 p10
              go_wp2_with fail
              go_roundw
              case rel => exact ⟨i + 1, by omega, by go_num, HBR.out⟩
              case measure => simp [intOf]; omega
          cases g3 : (x.whom == t.whom)
          · go_wp2_with fail
            refine wp_region_flow (by kernel_rfl) 31 [] (by kernel_rfl) ?_ ?_ ?_
            · intro x hx; cases hx
            · intro x hx; cases hx
            · intro lo hi
              have kc0 := cell_regrown c0
              have kc8 := cell_regrown c8
              have kc9 := cell_regrown c9
              have kp9 := cell_regrown p9
              refine flowW_plain rfl ?_
              go_big_quiet_step (fail)
              refine wpQuiet_nil ?_
              refine flowW_plain rfl ?_
              go_big_quiet_step (fail)
              refine wpQuiet_nil ?_
              refine flowW_plain rfl ?_
              go_big_quiet_step (fail)
              refine wpQuiet_nil ?_
              refine flowW_plain rfl ?_
              go_big_quiet_step (fail)
              refine wpQuiet_nil ?_
              refine flowW_plain rfl ?_
              go_big_quiet_step (fail)
              refine wpQuiet_nil ?_
              refine flowW_plain rfl ?_
              go_big_quiet_step (fail)
              refine wpQuiet_nil ?_
              refine flowW_plain rfl ?_
              go_big_quiet_step (fail)
              refine wpQuiet_nil ?_
              refine flowW_plain rfl ?_
              go_big_quiet_step (fail)
              refine wpQuiet_nil ?_
              refine flowW_plain rfl ?_
              go_big_quiet_step (fail)
              refine wpQuiet_nil ?_
              refine flowW_plain rfl ?_
              go_big_quiet_step (fail)
              refine wpQuiet_nil ?_
              refine flowW_plain rfl ?_
              go_big_quiet_step (fail)
              refine wpQuiet_nil ?_
              refine flowW_plain rfl ?_
              go_big_quiet_step (fail)
              refine wpQuiet_nil ?_
              refine flowW_plain rfl ?_
              go_big_quiet_step (fail)
              refine wpQuiet_nil ?_
              refine flowW_plain rfl ?_
              go_big_quiet_step (fail)
              refine wpQuiet_nil ?_
              refine flowW_plain rfl ?_
              go_big_quiet_step (fail)
              refine wpQuiet_nil ?_
              refine flowW_plain rfl ?_
              go_big_quiet_step (fail)
              refine wpQuiet_nil ?_
              refine flowW_plain rfl ?_
              go_big_quiet_step (fail)
              refine wpQuiet_nil ?_
              refine flowW_plain rfl ?_
              go_big_quiet_step (fail)
              refine wpQuiet_nil ?_
              refine flowW_plain rfl ?_
              go_big_quiet_step (fail)
              refine wpQuiet_nil ?_
              refine flowW_plain rfl ?_
              go_big_quiet_step (fail)
              refine wpQuiet_nil ?_
              refine flowW_plain rfl ?_
              go_big_quiet_step (fail)
              refine wpQuiet_nil ?_
              refine flowW_plain rfl ?_
              go_big_quiet_step (fail)
              refine wpQuiet_nil ?_
              refine flowW_plain rfl ?_
              go_big_quiet_step (fail)
              refine wpQuiet_nil ?_
              refine flowW_plain rfl ?_
              go_big_quiet_step (fail)
              refine wpQuiet_nil ?_
              refine flowW_plain rfl ?_
              go_big_quiet_step (fail)
              refine wpQuiet_nil ?_
              refine flowW_skip rfl ?_
              go_big_quiet_step (fail)
              refine wpQuiet_nil ?_
              refine flowW_skip rfl ?_
              go_big_quiet_step (fail)
              refine wpQuiet_nil ?_
              refine flowW_plain rfl ?_
              go_big_quiet_step (fail)
              refine wpQuiet_nil ?_
              refine flowW_plain rfl ?_
              go_big_quiet_step (fail)
              refine wpQuiet_nil ?_
              refine flowW_skip rfl ?_
              go_big_quiet_step (fail)
              refine wpQuiet_nil ?_
              refine flowW_plain rfl ?_
              go_big_quiet_step (fail)
              refine wpQuiet_nil ?_
              refine flowW_end fun wz hwz hF hD => ?_
              clear kc0 kc8 kc9 kp9
              simp only [List.drop_succ_cons, List.drop_zero]
              have HBR := Lib.hid (below_then HBJ.out hwz)
              clear hwz hF hD ex c0 c1 c2 c3 c4 c5 c6 c7 c8 c9 c10 p0 p1 p2 p3 p4 p5 p6 p7 p8 p9 p10
              go_wp2_with fail
              go_roundw
              case rel => exact ⟨i + 1, by omega, by go_num, HBR.out⟩
              case measure => simp [intOf]; omega
          cases g4 : P.any (laterQ t.whom x)
          case true =>
            go_wp2_with fail
            refine wp_region_flow (by kernel_rfl) 31 [] (by kernel_rfl) ?_ ?_ ?_
            · intro x hx; cases hx
            · intro x hx; cases hx
            · intro lo hi
              have kc0 := cell_regrown c0
              have kc8 := cell_regrown c8
              have kc9 := cell_regrown c9
              have kp9 := cell_regrown p9
              refine flowW_plain rfl ?_
              go_big_quiet_step (fail)
              refine wpQuiet_nil ?_
              refine flowW_plain rfl ?_
              go_big_quiet_step (fail)
              refine wpQuiet_nil ?_
              refine flowW_plain rfl ?_
              go_big_quiet_step (fail)
              refine wpQuiet_nil ?_
              refine flowW_plain rfl ?_
              go_big_quiet_step (fail)
              refine wpQuiet_nil ?_
              refine flowW_plain rfl ?_
              go_big_quiet_step (fail)
              refine wpQuiet_nil ?_
              refine flowW_plain rfl ?_
              go_big_quiet_step (fail)
              refine wpQuiet_nil ?_
              refine flowW_plain rfl ?_
              go_big_quiet_step (fail)
              refine wpQuiet_nil ?_
              refine flowW_plain rfl ?_
              go_big_quiet_step (fail)
              refine wpQuiet_nil ?_
              refine flowW_plain rfl ?_
              go_big_quiet_step (fail)
              refine wpQuiet_nil ?_
              refine flowW_plain rfl ?_
              go_big_quiet_step (fail)
              refine wpQuiet_nil ?_
              refine flowW_plain rfl ?_
              go_big_quiet_step (fail)
              refine wpQuiet_nil ?_
              refine flowW_plain rfl ?_
              go_big_quiet_step (fail)
              refine wpQuiet_nil ?_
              refine flowW_plain rfl ?_
              go_big_quiet_step (fail)
              refine wpQuiet_nil ?_
              refine flowW_plain rfl ?_
              go_big_quiet_step (fail)
              refine wpQuiet_nil ?_
              refine flowW_plain rfl ?_
              go_big_quiet_step (fail)
              refine wpQuiet_nil ?_
              refine flowW_plain rfl ?_
              go_big_quiet_step (fail)
              refine wpQuiet_nil ?_
              refine flowW_plain rfl ?_
              go_big_quiet_step (fail)
              refine wpQuiet_nil ?_
              refine flowW_plain rfl ?_
              go_big_quiet_step (fail)
              refine wpQuiet_nil ?_
              refine flowW_plain rfl ?_
              go_big_quiet_step (fail)
              refine wpQuiet_nil ?_
              refine flowW_plain rfl ?_
              go_big_quiet_step (fail)
              refine wpQuiet_nil ?_
              refine flowW_plain rfl ?_
              go_big_quiet_step (fail)
              refine wpQuiet_nil ?_
              refine flowW_plain rfl ?_
              go_big_quiet_step (fail)
              refine wpQuiet_nil ?_
              refine flowW_plain rfl ?_
              go_big_quiet_step (fail)
              refine wpQuiet_nil ?_
              refine flowW_plain rfl ?_
              go_big_quiet_step (fail)
              refine wpQuiet_nil ?_
              refine flowW_plain rfl ?_
              go_big_quiet_step (fail)
              refine wpQuiet_nil ?_
              refine flowW_plain rfl ?_
              go_big_quiet_step (fail)
              refine wpQuiet_nil ?_
              refine flowW_plain rfl ?_
              go_big_quiet_step (fail)
              refine wpQuiet_nil ?_
              refine flowW_plain rfl ?_
              go_big_quiet_step (fail)
              refine wpQuiet_nil ?_
              refine flowW_plain rfl ?_
              go_big_quiet_step (fail)
              refine wpQuiet_nil ?_
              refine flowW_skip rfl ?_
              go_big_quiet_step (fail)
              refine wpQuiet_nil ?_
              refine flowW_plain rfl ?_
              go_big_quiet_step (fail)
              refine wpQuiet_nil ?_
              refine flowW_end fun wz hwz hF hD => ?_
              clear kc0 kc8 kc9 kp9
              simp only [List.drop_succ_cons, List.drop_zero]
              have HBR := Lib.hid (below_then HBJ.out hwz)
              clear hwz hF hD ex c0 c1 c2 c3 c4 c5 c6 c7 c8 c9 c10 p0 p1 p2 p3 p4 p5 p6 p7 p8 p9 p10
              go_wp2_with fail
              go_roundw
              case rel => exact ⟨i + 1, by omega, by go_num, HBR.out⟩
              case measure => simp [intOf]; omega
          have hno : may = false := by
            rw [← HMAY.out]
            exact once_no (by simpa using HNT.out) HCL.out.nd (HEP.out ▸ HIx.out) (eq_of_beq g1) (eq_of_beq g2) (eq_of_beq g3) (by rw [HEP.out]; exact g4)
          subst hno
          go_wp2_with fail
          refine wp_region_flow (by kernel_rfl) 31 [] (by kernel_rfl) ?_ ?_ ?_
          · intro x hx; cases hx
          · intro x hx; cases hx
          · intro lo hi
            have kc0 := cell_regrown c0
            have kc8 := cell_regrown c8
            have kc9 := cell_regrown c9
            have kp9 := cell_regrown p9
            refine flowW_plain rfl ?_
            go_big_quiet_step (fail)
            refine wpQuiet_nil ?_
            refine flowW_plain rfl ?_
            go_big_quiet_step (fail)
            refine wpQuiet_nil ?_
            refine flowW_plain rfl ?_
            go_big_quiet_step (fail)
            refine wpQuiet_nil ?_
            refine flowW_plain rfl ?_
            go_big_quiet_step (fail)
            refine wpQuiet_nil ?_
            refine flowW_plain rfl ?_
            go_big_quiet_step (fail)
            refine wpQuiet_nil ?_
            refine flowW_plain rfl ?_
            go_big_quiet_step (fail)
            refine wpQuiet_nil ?_
            refine flowW_plain rfl ?_
            go_big_quiet_step (fail)
            refine wpQuiet_nil ?_
            refine flowW_plain rfl ?_
            go_big_quiet_step (fail)
            refine wpQuiet_nil ?_
            refine flowW_plain rfl ?_
            go_big_quiet_step (fail)
            refine wpQuiet_nil ?_
            refine flowW_plain rfl ?_
            go_big_quiet_step (fail)
            refine wpQuiet_nil ?_
            refine flowW_plain rfl ?_
            go_big_quiet_step (fail)
            refine wpQuiet_nil ?_
            refine flowW_plain rfl ?_
            go_big_quiet_step (fail)
            refine wpQuiet_nil ?_
            refine flowW_plain rfl ?_
            go_big_quiet_step (fail)
            refine wpQuiet_nil ?_
            refine flowW_plain rfl ?_
            go_big_quiet_step (fail)
            refine wpQuiet_nil ?_
            refine flowW_plain rfl ?_
            go_big_quiet_step (fail)
            refine wpQuiet_nil ?_
            refine flowW_plain rfl ?_
            go_big_quiet_step (fail)
            refine wpQuiet_nil ?_
            refine flowW_plain rfl ?_
            go_big_quiet_step (fail)
            refine wpQuiet_nil ?_
            refine flowW_plain rfl ?_
            go_big_quiet_step (fail)
            refine wpQuiet_nil ?_
            refine flowW_plain rfl ?_
            go_big_quiet_step (fail)
            refine wpQuiet_nil ?_
            refine flowW_plain rfl ?_
            go_big_quiet_step (fail)
            refine wpQuiet_nil ?_
            refine flowW_plain rfl ?_
            go_big_quiet_step (fail)
            refine wpQuiet_nil ?_
            refine flowW_plain rfl ?_
            go_big_quiet_step (fail)
            refine wpQuiet_nil ?_
            refine flowW_plain rfl ?_
            go_big_quiet_step (fail)
            refine wpQuiet_nil ?_
            refine flowW_plain rfl ?_
            go_big_quiet_step (fail)
            refine wpQuiet_nil ?_
            refine flowW_plain rfl ?_
            go_big_quiet_step (fail)
            refine wpQuiet_nil ?_
            refine flowW_plain rfl ?_
            go_big_quiet_step (fail)
            refine wpQuiet_nil ?_
            refine flowW_plain rfl ?_
            go_big_quiet_step (fail)
            refine wpQuiet_nil ?_
            refine flowW_plain rfl ?_
            go_big_quiet_step (fail)
            refine wpQuiet_nil ?_
            refine flowW_plain rfl ?_
            go_big_quiet_step (fail)
            refine wpQuiet_nil ?_
            refine flowW_plain rfl ?_
            go_big_quiet_step (fail)
            refine wpQuiet_nil ?_
            refine flowW_plain rfl ?_
            go_big_quiet_step (fail)
            refine wpQuiet_nil ?_
            refine flowW_end fun wz hwz hF hD => ?_
            clear kc0 kc8 kc9 kp9
            simp only [List.drop_succ_cons, List.drop_zero]
            have HBR := Lib.hid (below_then HBJ.out hwz)
            clear hwz hF hD ex c0 c1 c2 c3 c4 c5 c6 c7 c8 c9 c10 p0 p1 p2 p3 p4 p5 p6 p7 p8 p9 p10
            go_wp2_with fail
            go_roundw
            case rel => exact ⟨i + 1, by omega, by go_num, HBR.out⟩
            case measure => simp [intOf]; omega
    · have hkn : np = i := by omega
      subst hkn
      have hk2 : ¬ (np : Int) < (np : Int) := by omega
      replace HB := Lib.hid (below_then HB.out HBK.out)
      clear HBK hlt hi
      cases may
      · go_wp2_with fail
        go_ret
        exact ⟨rfl, below_then HB1.out HB.out⟩
      obtain ⟨e1, e2, e3, e4⟩ := once_may (by simpa using HNT.out) HMAY.out
      have b1 : (t.whom == 1) = false := by simpa using e1
      have b1' : (t.whom != 1) = true := by simpa using e1
      have b2 : (t.whom == t.dev) = false := by simpa using e2
      have b2' : (t.whom != t.dev) = true := by simpa using e2
      obtain ⟨f, hf⟩ : ∃ f, ofV t.deps t.whom = f := ⟨_, rfl⟩
      rw [hf] at e3 e4
      have HF0 := Lib.hid hf
      have b3 : decide (f ≤ t.upto) = true := decide_eq_true e3
      clear hf e1 e2
      have p0 := cell_of_box (bx_later HB.out HT.out) 0 rfl
      have p1 := cell_of_box (bx_later HB.out HT.out) 1 rfl
      have p2 := cell_of_box (bx_later HB.out HT.out) 2 rfl
      have p3 := cell_of_box (bx_later HB.out HT.out) 3 rfl
      have p4 := cell_of_box (bx_later HB.out HT.out) 4 rfl
      have p5 := cell_of_box (bx_later HB.out HT.out) 5 rfl
      have p6 := cell_of_box (bx_later HB.out HT.out) 6 rfl
      have p7 := cell_of_box (bx_later HB.out HT.out) 7 rfl
      have p8 := cell_of_box (bx_later HB.out HT.out) 8 rfl
      have p9 := cell_of_box (bx_later HB.out HT.out) 9 rfl
      have p10 := cell_of_box (bx_later HB.out HT.out) 10 rfl
      go_wp2_with fail
      refine (ofV_v HF0.out (HTR.out.later HB.out).deps').mono ?_
      rintro e w7 ⟨rfl, rfl⟩
      cases g1 : (t.note == 1)
      · have g1' : ¬ t.note = 1 := by simpa using g1
        obtain ⟨e5, e6⟩ := e4.resolve_left g1'
        have b5 : (t.dev == 1) = true := by simp [e5]
        have b6 : (f == t.upto) = true := by simp [e6]
        clear e5 e6 e4 e3 g1'
        go_wp2_with fail
        go_ret
        exact ⟨rfl, below_then HB1.out HB.out⟩
      · clear e4 e3
        go_wp2_with fail
        go_ret
        exact ⟨rfl, below_then HB1.out HB.out⟩

set_option maxRecDepth 100000 in
theorem lifted (os : Os) (started : os.Started) (H : Type) (enc : TypeId × Value → H) :
    ReturnsInHanded {} Try.checked os 4 .any (Rows.pastOnceSpec.pre6 enc Try.prog Try.f4 Rows.pastOnceRow.domain false) (Rows.pastOnceSpec.post enc Try.prog Try.f4 false true false false) := by
  refine returnsInHanded_of_change_sized (C := Try.checked) ownKnob_none started (by kernel_rfl) Try.func4
    (ChangeSpec.witness6 (enc := enc) (C := Try.checked) false ⟨#[], #[.slice none 0 0, .int .i64 0, .slice none 0 0, .slice none 0 0, .agg #[.int .i64 0, .int .i64 0, .int .i64 0, .slice none 0 0, .slice none 0 0, .slice none 0 0, .bool false, .slice none 0 0, .int .i64 0, .int .i64 0, .int .i64 0]], []⟩ 8 (by kernel_rfl) (by kernel_rfl) (by kernel_rfl) (by kernel_rfl)) ?_
  intro W base args ds gs before hval0 hW hcnd hsz0 _
  have hval : ∀ (j : Nat) t v, Try.f4.params[j]? = some t → args[j]? = some v → Value.okWide Try.prog W .any base t v := hval0
  have hW' := hW
  obtain ⟨p, q, hA0, hV, rfl, hfz, hnd⟩ := hW
  have hA : DataW.TrodAll enc Try.prog W 0 (fun _ => true) true Try.f4.params.toList args.toList ds p := hA0
  have hsz : (DataW.weightsEach Try.prog (Try.f4.params.toList ++ Rows.pastOnceSpec.plain.varTypes Try.prog) (ds ++ gs)).all (· ≤ reachBytes) = true := hsz0
  rw [Try.params4] at hA hval hsz
  obtain ⟨v0, vs0, d0, ds0, p0, q0, hargs, rfl, rfl, h0, r0r⟩ := trodAll_cons hA
  obtain ⟨v1, vs1, d1, ds1, p1, q1, rfl, rfl, rfl, h1, r1r⟩ := trodAll_cons r0r
  obtain ⟨v2, vs2, d2, ds2, p2, q2, rfl, rfl, rfl, h2, r2r⟩ := trodAll_cons r1r
  obtain ⟨v3, vs3, d3, ds3, p3, q3, rfl, rfl, rfl, h3, r3r⟩ := trodAll_cons r2r
  obtain ⟨v4, vs4, d4, ds4, p4, q4, rfl, rfl, rfl, h4, r4r⟩ := trodAll_cons r3r
  obtain ⟨rfl, rfl, rfl⟩ := trodAll_nil r4r
  obtain rfl : args = #[v0, v1, v2, v3, v4] := by cases args; simp_all
  obtain ⟨rfl, rfl⟩ := trodVars_none hV
  have g0 := sized_at hsz (j := 0) rfl rfl
  have g1 := sized_at hsz (j := 1) rfl rfl
  have g2 := sized_at hsz (j := 2) rfl rfl
  have g3 := sized_at hsz (j := 3) rfl rfl
  have g4 := sized_at hsz (j := 4) rfl rfl
  obtain ⟨y0_0, f0_0, f0_1⟩ := open_line (hval 0 23 v0 rfl rfl) h0
  obtain ⟨a1, rfl, rfl, rfl, w1⟩ := open_int Try.underlying3 (hval 1 3 v1 rfl rfl) h1
  obtain ⟨y2_0, f2_0⟩ := open_owns (hval 2 36 v2 rfl rfl) h2
  obtain ⟨y3_0, f3_0, f3_1⟩ := open_txs (hval 3 24 v3 rfl rfl) h3
  obtain ⟨y4_0, rfl, f4_0, f4_1⟩ := open_txS (hval 4 31 v4 rfl rfl) h4
  refine (walk v0 y0_0 a1 v2 y2_0 v3 y3_0 y4_0 W f0_0 f0_1 (wf_i64 w1) f2_0 f3_0 f3_1 f4_0 f4_1).mono fun e W' ⟨he, hg⟩ => ⟨_, he, law_post laidOut (by kernel_rfl) rfl Try.underlying4 rfl rfl hW' hg⟩

theorem over : Rows.pastOnceRow.holds Try.pinned (OpenSpec.ofChange Rows.pastOnceSpec) :=
  OpenClaim.holds_of_wide 4 Try.f4 rfl rfl rfl rfl rfl rfl rfl ⟨rfl, rfl, rfl, rfl, rfl⟩ rfl rfl rfl rfl rfl (by kernel_rfl) Try.func4 (by kernel_rfl)
    (of_decide_eq_true (by kernel_rfl)) (by unfold Func.isWrapper; first | (rw [if_pos (by decide +kernel)]; kernel_rfl) | (rw [if_neg (by decide +kernel)]; exact ⟨rfl, rfl⟩))
    (fun os started H enc _ => lifted os started H enc)

/-- THE STATEMENT. -/
theorem proved : Rows.PastOnceSaid :=
  over
#print axioms proved
end Go.Proofs.Ytnolbabpkhdpmaa.pastOnce
