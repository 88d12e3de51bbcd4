/-
  Layer 24 (zset): slices.DeleteFunc at items: the walk.
-/
import Derived.Test.YtgmemdhbnnhifaaZI
namespace Go.Proofs.Ytgmemdhbnnhifaa
open Go.RowKit Go.Sort Go.BigFrame

def DelPost (B : Nat) (v : Value) (l' : List It) (w : World) (e : Ending) (w' : World) : Prop :=
  ∃ v', e = .returned v' ∧ OwnI w' B v' l' ∧ But (fun k => v.ownBlock = some k) w w' ∧ v'.ownBlock = v.ownBlock

/-- What DeleteFunc's loop keeps. -/
structure DelR (B g c n i j : Nat) (p : It → Bool) (l C : List It) (w wr : World) : Prop where
  own : OwnI wr B (.slice (some ⟨g, 0, none⟩) C.length c) C
  len : C.length = n
  ij : i < j
  head : C.take i = (l.take j).filter fun x => !p x
  tail : C.drop j = l.drop j
  but : But (fun k => some g = some k) w wr

set_option maxRecDepth 100000 in
set_option maxHeartbeats 2000000 in
theorem delete_any {q : Nat} {p : It → Bool} (P : PredOk q p) (B : Nat) (v : Value) (l : List It) (w : World) (h : OwnI w B v l) (hn : l.length ≤ 1000000) :
    Calls Try.prog 34 #[v, .func (.func q) #[] #[]] w (DelPost B v (l.filter fun x => !p x) w) := by
  obtain ⟨n, hln⟩ : ∃ n, l.length = n := ⟨_, rfl⟩
  have hix := index_any P v l w (Rd.of_own h) hn
  obtain ⟨ao, c, rfl, hnc, hcm, _, _⟩ := Rd.of_own h
  have HIX := Lib.hid hix
  have HO := Lib.hid h
  have HLN := Lib.hid hln
  have heg := P.eg
  have HC := Lib.hid P.call
  unfold OwnI at HO
  rw [hln] at hn hnc HIX HO ⊢
  unfold maxLen at hcm
  clear h hln P hix
  go_enter Try.func34, Try.ntmps34
  go_wp2_with fail
  refine HIX.out.mono ?_
  rintro e w1 ⟨⟨rfl, hno⟩ | ⟨k, hk, rfl, hp, hno⟩, hb1⟩
  · have hf : l.filter (fun x => !p x) = l := List.filter_eq_self.2 fun x hx => by rw [hno x hx]; rfl
    have hB1 := Lib.hid hb1
    have HF := Lib.hid hf
    clear hno hf hb1
    go_wp2_with fail
    go_ret
    refine ⟨_, rfl, ?_, But.of_below hB1.out, rfl⟩
    have := own_later HO.out hB1.out
    rw [HF.out]
    unfold OwnI
    rw [HLN.out]; exact this
  · have hkn : k < n := by have := HLN.out; omega
    have hg : ∃ g, ao = some ⟨g, 0, none⟩ := by
      rcases id HO.out.2 with ⟨h', h0⟩ | ⟨g, cap, cur, h', _⟩
      · omega
      · cases h'; exact ⟨g, rfl⟩
    obtain ⟨g, rfl⟩ := hg
    have hD : DelR B g c n k (k + 1) p l l w w1 := by
      refine ⟨?_, HLN.out, Nat.lt_succ_self _, ?_, rfl, But.of_below hb1⟩
      · have := own_later HO.out hb1
        unfold OwnI
        rw [HLN.out]; exact this
      · rw [List.take_succ_eq_append_getElem hk, List.filter_append, List.filter_cons_of_neg (by simp [hp]), List.filter_nil, List.append_nil]
        exact (List.filter_eq_self.2 fun x hx => by rw [hno x hx]; rfl).symm
    have HD := Lib.hid hD
    have hm1 : ((k : Int) == -1) = false := by simp
    clear hD hno hp hk hb1
    go_wp2_with fail
    go_loopw [5, 6] (fun vi vj wr => ∃ i j : Nat, ∃ C : List It, i < n ∧ j ≤ n ∧ vi = .int .i64 i ∧ vj = .int .i64 j ∧ Hid (DelR B g c n i j p l C w wr)) (fun _ vj _ => n - (intOf vj).toNat)
    case atStart => exact ⟨k, k + 1, l, hkn, hkn, rfl, by go_num, HD⟩
    case round =>
      obtain ⟨i, j, C, hin, hjn, rfl, rfl, R⟩ := hrel
      rename World => wr
      by_cases hlt : j < n
      · have hjl : j < l.length := by have := HLN.out; omega
        have hjC : j < C.length := by have := R.out.len; omega
        have hiC : i < C.length := by have := R.out.len; omega
        have hCj : C[j] = l[j] := by
          have h1 : (C.drop j)[0]? = (l.drop j)[0]? := by rw [R.out.tail]
          rw [List.getElem?_drop, List.getElem?_drop, Nat.add_zero, List.getElem?_eq_getElem hjC, List.getElem?_eq_getElem hjl] at h1
          exact Option.some.inj h1
        obtain ⟨g', c', oj, hv, hoj, _, _, _, x1, c0, c1, c2, hf, hgl⟩ := own_it R.out.own j hjC
        cases hv
        rw [R.out.len] at x1
        rw [hCj] at c0 c1 c2
        obtain ⟨g', c', oi, hv, hoi, _, _, _, x2, d0, d1, d2, _, _⟩ := own_it R.out.own i hiC
        cases hv
        rw [R.out.len] at x2
        have hcall := fun W => HC.out l[j] W
        obtain ⟨x, hx⟩ : ∃ x, l[j] = x := ⟨_, rfl⟩
        rw [hx] at c0 c1 c2
        generalize C[i] = y at *
        simp only [hx] at hcall
        have HX := Lib.hid hx
        have HOI := Lib.hid hoi
        clear hx hCj hoj hoi
        have hbx := below_alloc wr (.cells #[.slice x.ra x.rn x.rc, .int .i64 x.many, .slice x.ba x.bn x.bc] 39)
        have e0 : (wr.alloc (.cells #[.slice x.ra x.rn x.rc, .int .i64 x.many, .slice x.ba x.bn x.bc] 39)).cell? ⟨wr.heap.size, 0, none⟩ = some (.slice x.ra x.rn x.rc) := by simp [go_sem]
        have e1 : (wr.alloc (.cells #[.slice x.ra x.rn x.rc, .int .i64 x.many, .slice x.ba x.bn x.bc] 39)).cell? ⟨wr.heap.size, 1, none⟩ = some (.int .i64 x.many) := by simp [go_sem]
        have e2 : (wr.alloc (.cells #[.slice x.ra x.rn x.rc, .int .i64 x.many, .slice x.ba x.bn x.bc] 39)).cell? ⟨wr.heap.size, 2, none⟩ = some (.slice x.ba x.bn x.bc) := by simp [go_sem]
        have HBX := Lib.hid hbx
        clear hbx
        cases hp : p x
        all_goals
          have HP := Lib.hid hp
          simp only [hp] at hcall
          have HCL := Lib.hid hcall
          clear hcall hp
        · go_wp2_with fail
          generalize wr.alloc (.cells #[.slice x.ra x.rn x.rc, .int .i64 x.many, .slice x.ba x.bn x.bc] 39) = w3 at *
          refine (HCL.out _).mono ?_
          rintro e w4 ⟨rfl, hb4⟩
          have hb := below_then HBX.out hb4
          replace e0 := cell_later hb4 e0
          replace e1 := cell_later hb4 e1
          replace e2 := cell_later hb4 e2
          replace d0 := cell_later hb d0
          replace d1 := cell_later hb d1
          replace d2 := cell_later hb d2
          have hown4 : OwnI w4 B (.slice (some ⟨g, 0, none⟩) C.length c) C := own_later R.out.own hb
          have f0 := hown4.frozenAt oi
          have f1 := hown4.frozenAt (oi + 1)
          have f2 := hown4.frozenAt (oi + 2)
          have HB := Lib.hid hb
          have HW4 := Lib.hid hown4
          clear hb hb4 hown4 c0 c1 c2
          go_wp2_with fail
          go_roundw
          case rel =>
            refine ⟨i + 1, j + 1, C.set i x, ?_, by omega, by go_num, by go_num, ?_⟩
            · have := R.out.ij; omega
            · have hput := own_put HW4.out i hiC x
              rw [← HOI.out] at hput
              have hij := R.out.ij
              refine ⟨hput, by rw [List.length_set]; exact R.out.len, by omega, ?_, ?_, ?_⟩
              · rw [List.take_succ_eq_append_getElem (by rw [List.length_set]; exact hiC), List.getElem_set_self, List.take_set_of_le (Nat.le_refl _), R.out.head, List.take_succ_eq_append_getElem hjl, List.filter_append, HX.out, List.filter_cons_of_pos (by rw [HP.out]; rfl), List.filter_nil]
              · rw [List.drop_set_of_lt (by omega)]
                have h1 := congrArg (List.drop 1) R.out.tail
                rwa [List.drop_drop, List.drop_drop] at h1
              · exact (((R.out.but.trans (But.of_below HB.out) (fun _ _ h => h)).set rfl _).set rfl _).set rfl _
          case measure => simp [intOf]; omega
        · go_wp2_with fail
          generalize wr.alloc (.cells #[.slice x.ra x.rn x.rc, .int .i64 x.many, .slice x.ba x.bn x.bc] 39) = w3 at *
          refine (HCL.out _).mono ?_
          rintro e w4 ⟨rfl, hb4⟩
          have HB := Lib.hid (below_then HBX.out hb4)
          clear hb4 e0 e1 e2 c0 c1 c2 d0 d1 d2
          go_wp2_with fail
          go_roundw
          case rel =>
            refine ⟨i, j + 1, C, hin, by omega, rfl, by go_num, ?_⟩
            have hij := R.out.ij
            refine ⟨own_later R.out.own HB.out, R.out.len, by omega, ?_, ?_, R.out.but.trans (But.of_below HB.out) (fun _ _ h => h)⟩
            · rw [R.out.head, List.take_succ_eq_append_getElem hjl, List.filter_append, HX.out, List.filter_cons_of_neg (by rw [HP.out]; simp), List.filter_nil, List.append_nil]
            · have h1 := congrArg (List.drop 1) R.out.tail
              rwa [List.drop_drop, List.drop_drop] at h1
          case measure => simp [intOf]; omega
      · have hjn : j = n := by omega
        subst hjn
        have hiC : i < C.length := by have := R.out.len; omega
        have hsl := fun W => run_lo_at elIt (g := g) (n := j) (c := c) hin hnc W
        have hsh := fun W => run_hi_at elIt (g := g) (n := j) (c := c) (Nat.le_of_lt hin) hnc W
        have hown : wr.ownsRow B 39 3 (.slice (some ⟨g, 0, none⟩) j c) j (itCs C) := by have := R.out.own; unfold OwnI at this; rw [R.out.len] at this; exact this
        have hz : ∀ v ∈ (Value.agg #[.slice none 0 0, .int .i64 0, .slice none 0 0]).cells, v.oneCell' = true := by
          intro v hv
          have hc : (Value.agg #[.slice none 0 0, .int .i64 0, .slice none 0 0]).cells = #[.slice none 0 0, .int .i64 0, .slice none 0 0] := rfl
          rw [hc] at hv
          simp only [List.mem_toArray, List.mem_cons, List.not_mem_nil, or_false] at hv
          rcases hv with rfl | rfl | rfl <;> rfl
        have hcl := fun ty => run_clear_own elIt (n := j - i) (c := c - i) (o := i * 3) hown (by omega) (by omega) hz ty
        obtain ⟨ys, h1, h2, h3⟩ := own_sets (Builtin.zeroCells (Value.cells (.agg #[.slice none 0 0, .int .i64 0, .slice none 0 0])) (j - i)).toList (i * 3) hown
        have HS := Lib.hid h1
        have HT := Lib.hid (h2 (i * 3) (Nat.le_refl _))
        have HG := Lib.hid h3
        generalize wr.setCells g (i * 3) (Builtin.zeroCells (Value.cells (.agg #[.slice none 0 0, .int .i64 0, .slice none 0 0])) (j - i)).toList = w2 at *
        clear h1 h2 h3 hz hown
        go_wp2_with fail
        go_ret
        refine ⟨_, rfl, ?_, R.out.but.trans (But.of_grown HG.out fun k hk => hk) (fun _ _ h => h), rfl⟩
        have ht := own_take HS.out i (by omega)
        rw [HT.out, itCs_take] at ht
        have hC := R.out.head
        rw [List.take_of_length_le (l := l) (by have := HLN.out; omega)] at hC
        rw [hC] at ht
        unfold OwnI
        have hl : (l.filter fun x => !p x).length = i := by rw [← hC, List.length_take]; omega
        rw [hl]
        exact ht
end Go.Proofs.Ytgmemdhbnnhifaa
