/-
  TreeCompares: Equal; the law's own walk.
-/
import Derived.Test.YteaabbghnfideaaDoorTCmpR
import Derived.Test.YteaabbghnfideaaDoorLawTR
namespace Go.Proofs.YteaabbghnfideaaDoor
open Go.RowKit
set_option maxHeartbeats 20000000

theorem compareX_all : ∀ N : Nat, CmpXC N
  | 0 => fun x y h => by have := wt_pos x; omega
  | N + 1 => compareX_step N (compareX_all N)
section
variable {W w : World} {L : List HP} {h : Nat → Option Obj}
theorem compareX_any (S : Sat W w (arch h :: L)) (t u : T) (vs us : List Value) (hin : TIn h t vs) (hiu : TIn h u us) (hot : TOk t) (hou : TOk u) (hft : TFl t) (hfu : TFl u) :
    Calls Tryd.prog 24 #[.agg vs.toArray, .agg us.toArray] w fun e w' => e = .returned (.int .i64 (cmp t u)) ∧ Sat W w' (arch h :: L) :=
  compareX_all (wt t + wt u) t u (Nat.le_refl _) hot hou hft hfu W w L h vs us S hin hiu
theorem equal_any (S : Sat W w (arch h :: L)) (t u : T) (vs us : List Value) (hin : TIn h t vs) (hiu : TIn h u us) (hot : TOk t) (hou : TOk u) (hw : wt t + wt u ≤ 1099511627776) :
    Calls Tryd.prog 25 #[.agg vs.toArray, .agg us.toArray] w fun e w' => e = .returned (.bool (cmp t u == 0)) ∧ Sat W w' (arch h :: L) := by
  obtain ⟨ia, ic, ra, rc, ba, bc, rfl, _⟩ := id hin.vals
  obtain ⟨ia', ic', ra', rc', ba', bc', rfl, _⟩ := id hiu.vals
  have s1 := ((S.alloc' (.cells (tVals t ia ic ra rc ba bc).toArray 25)).alloc' (.cells (tVals u ia' ic' ra' rc' ba' bc').toArray 25))
  have HC := hid (compare_any s1 t u _ _ hin hiu hot hou hw)
  obtain ⟨r, HR⟩ : ∃ r, Hid (cmp t u = r) := ⟨_, hid rfl⟩
  rw [HR.out] at HC ⊢
  clear S hin hiu s1
  unfold tVals at HC ⊢
  go_enter Tryd.func25, Tryd.ntmps25
  go_wp2_with fail
  refine HC.out.mono ?_
  rintro e w2 ⟨rfl, s2⟩
  have S2 := hid s2
  clear s2 HC
  go_wp2_with fail
  go_ret
  exact ⟨rfl, S2.out⟩
end
set_option maxRecDepth 100000 in
theorem compares_walk {W : World} {t u : T} (cs us : Array Value) (hg : TGood W cs.toList t) (hu : TGood W us.toList u) (hw : wt t + wt u ≤ 1099511627776) :
    Calls Tryd.prog 8 #[.agg cs, .agg us] W fun e w' => e = .returned (.bool true) ∧ Below W.heap.size W w' := by
  obtain ⟨hin, hok⟩ := hg
  obtain ⟨hiu, hou⟩ := hu
  obtain ⟨ia, ic, ra, rc, ba, bc, hcs, _⟩ := id hin.vals
  obtain rfl : cs = (tVals t ia ic ra rc ba bc).toArray := by rw [← hcs]
  obtain ⟨ia', ic', ra', rc', ba', bc', hus, _⟩ := id hiu.vals
  obtain rfl : us = (tVals u ia' ic' ra' rc' ba' bc').toArray := by rw [← hus]
  have hin : TIn (heapOf W) t (tVals t ia ic ra rc ba bc) := hin
  have hiu : TIn (heapOf W) u (tVals u ia' ic' ra' rc' ba' bc') := hiu
  have SB := hid (((Sat.startArch W).allocAt (k := W.heap.size) (.cells (tVals t ia ic ra rc ba bc).toArray 25) rfl).allocAt (k := W.heap.size + 1) (.cells (tVals u ia' ic' ra' rc' ba' bc').toArray 25) (by simp))
  have HIt := hid hin
  have HOt := hid hok
  have HIu := hid hiu
  have HOu := hid hou
  have HLE := hid (Le.refl (heapOf W))
  have HW := hid hw
  unfold tVals at SB HIt HIu ⊢
  have SS : Hid (Sat W _ (arch (heapOf W) :: blk W.heap.size (.cells #[.int .i64 t.k, .int .i64 t.n, .string t.nm, .slice ia t.is.length ic, .slice ra t.rs.length rc, .slice ba t.bs.length bc] 25 (0, 0)) :: blk (W.heap.size + 1) (.cells #[.int .i64 u.k, .int .i64 u.n, .string u.nm, .slice ia' u.is.length ic', .slice ra' u.rs.length rc', .slice ba' u.bs.length bc'] 25 (0, 0)) :: [])) := hid (by have := SB.out; exact this.sel [2, 1, 0])
  clear SB
  have SD := hid SS.out.drew
  clear SS hcs hus hin hok hiu hou hw
  have SS := SD
  clear SD
  have hx := fun i => (SS.out.swap).cell i
  have hy := fun i => (SS.out.rot3).cell i
  have x0 := hx 0
  have x1 := hx 1
  have x2 := hx 2
  have x3 := hx 3
  have x4 := hx 4
  have x5 := hx 5
  have y0 := hy 0
  have y1 := hy 1
  have y2 := hy 2
  have y3 := hy 3
  have y4 := hy 4
  have y5 := hy 5
  simp only [List.getElem?_toArray, List.getElem?_cons_zero, List.getElem?_cons_succ] at x0 x1 x2 x3 x4 x5 y0 y1 y2 y3 y4 y5
  clear hx hy
  go_enter Tryd.func8, Tryd.ntmps8
  obtain ⟨r, HR⟩ : ∃ r, Hid (cmp t u = r) := ⟨_, hid rfl⟩
  have HR3 := hid (cmp_three t u)
  rw [HR.out] at HR3
  go_wp2_with fail
  go_region_law (first
    | (go_simp
       go_at_call 16
       with_reducible refine (c_any SS.out t _ (TIn.mono HLE.out t HIt.out) HOt.out).mono ?_
       rintro e w1 ⟨vs1, h1, rfl, l1, q1, s1⟩
       obtain ⟨Q1a, Q1c, Q1ra, Q1rc, Q1ba, Q1bc, rfl, _⟩ := id q1.vals
       have LL := hid (HLE.out.trans l1)
       try (have QQ := hid (TIn.mono l1 u Q2.out); clear Q2; have Q2 := QQ; clear QQ)
       clear HLE
       have HLE := LL
       clear LL
       have Q1 := hid q1
       clear SS x0 x1 x2 x3 x4 x5 y0 y1 y2 y3 y4 y5
       have SS := hid s1
       have hx := fun i => (SS.out.swap).cell i
       have hy := fun i => (SS.out.rot3).cell i
       have x0 := hx 0
       have x1 := hx 1
       have x2 := hx 2
       have x3 := hx 3
       have x4 := hx 4
       have x5 := hx 5
       have y0 := hy 0
       have y1 := hy 1
       have y2 := hy 2
       have y3 := hy 3
       have y4 := hy 4
       have y5 := hy 5
       simp only [List.getElem?_toArray, List.getElem?_cons_zero, List.getElem?_cons_succ] at x0 x1 x2 x3 x4 x5 y0 y1 y2 y3 y4 y5
       clear hx hy
       unfold tVals at Q1 ⊢
       clear s1 q1 l1)
    | (go_simp
       go_at_call 16
       with_reducible refine (c_any SS.out u _ (TIn.mono HLE.out u HIu.out) HOu.out).mono ?_
       rintro e w1 ⟨vs1, h1, rfl, l1, q1, s1⟩
       obtain ⟨Q2a, Q2c, Q2ra, Q2rc, Q2ba, Q2bc, rfl, _⟩ := id q1.vals
       have LL := hid (HLE.out.trans l1)
       try (have QQ := hid (TIn.mono l1 t Q1.out); clear Q1; have Q1 := QQ; clear QQ)
       clear HLE
       have HLE := LL
       clear LL
       have Q2 := hid q1
       clear SS x0 x1 x2 x3 x4 x5 y0 y1 y2 y3 y4 y5
       have SS := hid s1
       have hx := fun i => (SS.out.swap).cell i
       have hy := fun i => (SS.out.rot3).cell i
       have x0 := hx 0
       have x1 := hx 1
       have x2 := hx 2
       have x3 := hx 3
       have x4 := hx 4
       have x5 := hx 5
       have y0 := hy 0
       have y1 := hy 1
       have y2 := hy 2
       have y3 := hy 3
       have y4 := hy 4
       have y5 := hy 5
       simp only [List.getElem?_toArray, List.getElem?_cons_zero, List.getElem?_cons_succ] at x0 x1 x2 x3 x4 x5 y0 y1 y2 y3 y4 y5
       clear hx hy
       unfold tVals at Q2 ⊢
       clear s1 q1 l1)
    | (go_simp
       go_at_call 21
       refine (compare_any SS.out t u _ _ Q1.out Q2.out HOt.out HOu.out HW.out).mono ?_
       rintro e w3 ⟨rfl, s3⟩
       have SX := hid s3
       clear s3 SS x0 x1 x2 x3 x4 x5 y0 y1 y2 y3 y4 y5
       have SS := SX
       clear SX
       rw [HR.out]))
  all_goals clear Q1 Q2
  all_goals
    skip
    have hx := fun i => (SS.out.swap).cell i
    have hy := fun i => (SS.out.rot3).cell i
    have x0 := hx 0
    have x1 := hx 1
    have x2 := hx 2
    have x3 := hx 3
    have x4 := hx 4
    have x5 := hx 5
    have y0 := hy 0
    have y1 := hy 1
    have y2 := hy 2
    have y3 := hy 3
    have y4 := hy 4
    have y5 := hy 5
    simp only [List.getElem?_toArray, List.getElem?_cons_zero, List.getElem?_cons_succ] at x0 x1 x2 x3 x4 x5 y0 y1 y2 y3 y4 y5
    clear hx hy
    have HX := hid (xright_t SS.out t _ (TIn.mono HLE.out t HIt.out) HOt.out)
    go_wp2_with fail
    refine HX.out.mono ?_
    rintro e w4 ⟨v4, h4, rfl, l4, e4, s4⟩
    have LL := hid (HLE.out.trans l4)
    have SX := hid s4
    clear s4 SS HX HLE x0 x1 x2 x3 x4 x5 y0 y1 y2 y3 y4 y5
    have SS := SX
    have HLE := LL
    clear SX LL l4
    have hx := fun i => (SS.out.swap).cell i
    have hy := fun i => (SS.out.rot3).cell i
    have x0 := hx 0
    have x1 := hx 1
    have x2 := hx 2
    have x3 := hx 3
    have x4 := hx 4
    have x5 := hx 5
    have y0 := hy 0
    have y1 := hy 1
    have y2 := hy 2
    have y3 := hy 3
    have y4 := hy 4
    have y5 := hy 5
    simp only [List.getElem?_toArray, List.getElem?_cons_zero, List.getElem?_cons_succ] at x0 x1 x2 x3 x4 x5 y0 y1 y2 y3 y4 y5
    clear hx hy
    cases hr : rightOf t with
    | some nk =>
      obtain ⟨n, k⟩ := nk
      rw [hr] at e4
      have e4 : XIn h4 v4 [(tTerm, n)] k := e4
      obtain ⟨b, rfl⟩ := e4.some
      clear e4 hr
      have hr3 := HR3.out
      rcases hr3 with rfl | rfl | rfl
      all_goals go_wp2_with fail
      all_goals refine (awake_any SS.out).mono ?_
      all_goals rintro e w5 ⟨h5, rfl, l5, s5⟩
      all_goals have LL := hid (HLE.out.trans l5)
      all_goals have S5 := hid s5
      all_goals clear s5 l5
      all_goals go_wp2_with fail
      all_goals go_ret
      all_goals exact ⟨rfl, S5.out.archBelow LL.out⟩
    | none =>
      rw [hr] at e4
      have e4 : v4 = none := e4
      subst e4
      have HFT := hid (right_fl hr)
      have HX := hid (xright_t SS.out u _ (TIn.mono HLE.out u HIu.out) HOu.out)
      clear hr
      go_wp2_with fail
      refine HX.out.mono ?_
      rintro e w6 ⟨v6, h6, rfl, l6, e6, s6⟩
      have LL := hid (HLE.out.trans l6)
      have SX := hid s6
      clear s6 SS HX HLE x0 x1 x2 x3 x4 x5 y0 y1 y2 y3 y4 y5
      have SS := SX
      have HLE := LL
      clear SX LL l6
      cases hr : rightOf u with
      | some nk =>
        obtain ⟨n, k⟩ := nk
        rw [hr] at e6
        have e6 : XIn h6 v6 [(tTerm, n)] k := e6
        obtain ⟨b, rfl⟩ := e6.some
        clear e6 hr
        have hr3 := HR3.out
        rcases hr3 with rfl | rfl | rfl
        all_goals go_wp2_with fail
        all_goals refine (awake_any SS.out).mono ?_
        all_goals rintro e w5 ⟨h5, rfl, l5, s5⟩
        all_goals have LL := hid (HLE.out.trans l5)
        all_goals have S5 := hid s5
        all_goals clear s5 l5
        all_goals go_wp2_with fail
        all_goals go_ret
        all_goals exact ⟨rfl, S5.out.archBelow LL.out⟩
      | none =>
        rw [hr] at e6
        have e6 : v6 = none := e6
        subst e6
        have HFU := hid (right_fl hr)
        clear hr
        have SD := hid SS.out.drew
        clear SS
        have SS := SD
        clear SD
        have hx := fun i => (SS.out.swap).cell i
        have hy := fun i => (SS.out.rot3).cell i
        have x0 := hx 0
        have x1 := hx 1
        have x2 := hx 2
        have x3 := hx 3
        have x4 := hx 4
        have x5 := hx 5
        have y0 := hy 0
        have y1 := hy 1
        have y2 := hy 2
        have y3 := hy 3
        have y4 := hy 4
        have y5 := hy 5
        simp only [List.getElem?_toArray, List.getElem?_cons_zero, List.getElem?_cons_succ] at x0 x1 x2 x3 x4 x5 y0 y1 y2 y3 y4 y5
        clear hx hy
        have heq : ∀ a : Bool, (a == a) = true := by decide
        go_wp2_with fail
        go_region_law (first
          | (go_simp
             go_at_call 16
             with_reducible refine (c_any SS.out t _ (TIn.mono HLE.out t HIt.out) HOt.out).mono ?_
             rintro e w1 ⟨vs1, h1, rfl, l1, q1, s1⟩
             obtain ⟨Q1a, Q1c, Q1ra, Q1rc, Q1ba, Q1bc, rfl, _⟩ := id q1.vals
             have LL := hid (HLE.out.trans l1)
             try (have QQ := hid (TIn.mono l1 u Q2.out); clear Q2; have Q2 := QQ; clear QQ)
             clear HLE
             have HLE := LL
             clear LL
             have Q1 := hid q1
             clear SS x0 x1 x2 x3 x4 x5 y0 y1 y2 y3 y4 y5
             have SS := hid s1
             have hx := fun i => (SS.out.swap).cell i
             have hy := fun i => (SS.out.rot3).cell i
             have x0 := hx 0
             have x1 := hx 1
             have x2 := hx 2
             have x3 := hx 3
             have x4 := hx 4
             have x5 := hx 5
             have y0 := hy 0
             have y1 := hy 1
             have y2 := hy 2
             have y3 := hy 3
             have y4 := hy 4
             have y5 := hy 5
             simp only [List.getElem?_toArray, List.getElem?_cons_zero, List.getElem?_cons_succ] at x0 x1 x2 x3 x4 x5 y0 y1 y2 y3 y4 y5
             clear hx hy
             unfold tVals at Q1 ⊢
             clear s1 q1 l1)
          | (go_simp
             go_at_call 16
             with_reducible refine (c_any SS.out u _ (TIn.mono HLE.out u HIu.out) HOu.out).mono ?_
             rintro e w1 ⟨vs1, h1, rfl, l1, q1, s1⟩
             obtain ⟨Q2a, Q2c, Q2ra, Q2rc, Q2ba, Q2bc, rfl, _⟩ := id q1.vals
             have LL := hid (HLE.out.trans l1)
             try (have QQ := hid (TIn.mono l1 t Q1.out); clear Q1; have Q1 := QQ; clear QQ)
             clear HLE
             have HLE := LL
             clear LL
             have Q2 := hid q1
             clear SS x0 x1 x2 x3 x4 x5 y0 y1 y2 y3 y4 y5
             have SS := hid s1
             have hx := fun i => (SS.out.swap).cell i
             have hy := fun i => (SS.out.rot3).cell i
             have x0 := hx 0
             have x1 := hx 1
             have x2 := hx 2
             have x3 := hx 3
             have x4 := hx 4
             have x5 := hx 5
             have y0 := hy 0
             have y1 := hy 1
             have y2 := hy 2
             have y3 := hy 3
             have y4 := hy 4
             have y5 := hy 5
             simp only [List.getElem?_toArray, List.getElem?_cons_zero, List.getElem?_cons_succ] at x0 x1 x2 x3 x4 x5 y0 y1 y2 y3 y4 y5
             clear hx hy
             unfold tVals at Q2 ⊢
             clear s1 q1 l1)
          | (go_simp
             go_at_call 24
             refine (compareX_any SS.out t u _ _ (TIn.mono HLE.out t HIt.out) (TIn.mono HLE.out u HIu.out) HOt.out HOu.out HFT.out HFU.out).mono ?_
             rintro e w3 ⟨rfl, s3⟩
             have SX := hid s3
             clear s3 SS x0 x1 x2 x3 x4 x5 y0 y1 y2 y3 y4 y5
             have SS := SX
             clear SX
             have hx := fun i => (SS.out.swap).cell i
             have hy := fun i => (SS.out.rot3).cell i
             have x0 := hx 0
             have x1 := hx 1
             have x2 := hx 2
             have x3 := hx 3
             have x4 := hx 4
             have x5 := hx 5
             have y0 := hy 0
             have y1 := hy 1
             have y2 := hy 2
             have y3 := hy 3
             have y4 := hy 4
             have y5 := hy 5
             simp only [List.getElem?_toArray, List.getElem?_cons_zero, List.getElem?_cons_succ] at x0 x1 x2 x3 x4 x5 y0 y1 y2 y3 y4 y5
             clear hx hy
             rw [HR.out])
          | (go_simp
             go_at_call 25
             refine (equal_any SS.out t u _ _ Q1.out Q2.out HOt.out HOu.out HW.out).mono ?_
             rintro e w3 ⟨rfl, s3⟩
             have SX := hid s3
             clear s3 SS x0 x1 x2 x3 x4 x5 y0 y1 y2 y3 y4 y5
             have SS := SX
             clear SX
             rw [HR.out])
          | (go_simp
             go_at_call 18
             refine (awake_any SS.out).mono ?_
             rintro e w5 ⟨h5, rfl, l5, s5⟩
             have LL := hid (HLE.out.trans l5)
             have S5 := hid s5
             clear l5 s5))
        all_goals go_wp2_with fail
        all_goals go_ret
        all_goals exact ⟨rfl, S5.out.archBelow LL.out⟩
#print axioms compares_walk
end Go.Proofs.YteaabbghnfideaaDoor
