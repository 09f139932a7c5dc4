/-
  BifOrders: the law's own walk. (Written by wip/gen/gen_lawbo.py.)
-/
import Derived.Test.YtlgogflhjpcmlaaDoorBifO
import Derived.Test.YtlgogflhjpcmlaaDoorTArg
import Derived.Deep.RegionHeld3
namespace Go.Proofs.YtlgogflhjpcmlaaDoor
open Go.RowKit
set_option maxHeartbeats 8000000
set_option maxRecDepth 100000
section
variable {W w : World} {L : List HP} {h : Nat → Option Obj}
theorem cmp_lit8 (S : Sat W w (arch h :: L)) (t u : T) {a0 a1 a2 a3 a4 a5 b0 b1 b2 b3 b4 b5 : Value} (hin : TIn h t [a0, a1, a2, a3, a4, a5]) (hiu : TIn h u [b0, b1, b2, b3, b4, b5]) (hot : TOk t) (hou : TOk u) (hrt : rightOf t = none) (hru : rightOf u = none) {z : Int} (hz : cmp t u = z) :
    Calls Tryd.prog 27 #[.agg #[a0, a1, a2, a3, a4, a5], .agg #[b0, b1, b2, b3, b4, b5]] w fun e w' => e = .returned (.int .i64 z) ∧ Sat W w' (arch h :: L) := by
  rw [← hz]
  exact compare_any S t u _ _ hin hiu hot hou (by have := right_wt hrt; have := right_wt hru; omega)
theorem copy_lit8 (S : Sat W w (arch h :: L)) (t : T) {a0 a1 a2 a3 a4 a5 : Value} (hin : TIn h t [a0, a1, a2, a3, a4, a5]) (hok : TOk t) :
    Calls Tryd.prog 20 #[.agg #[a0, a1, a2, a3, a4, a5]] w fun e w' => ∃ ia ic ra rc ba bc h', e = .returned (.agg #[.int .i64 t.k, .int .i64 t.n, .string t.nm, .slice ia t.is.length ic, .slice ra t.rs.length rc, .slice ba t.bs.length bc]) ∧ Le h h' ∧ TIn h' t [.int .i64 t.k, .int .i64 t.n, .string t.nm, .slice ia t.is.length ic, .slice ra t.rs.length rc, .slice ba t.bs.length bc] ∧ Sat W w' (arch h' :: L) := by
  refine (copy_t t hok W w L h _ S hin).mono ?_
  rintro e w' ⟨vs, h', rfl, l, q, s⟩
  obtain ⟨ia, ic, ra, rc, ba, bc, rfl, _⟩ := id q.vals
  exact ⟨ia, ic, ra, rc, ba, bc, h', rfl, l, q, s⟩
end
theorem bo_walk {W : World} {t u : T} (ct cu : Array Value) (ht : TGood W ct.toList t) (hu : TGood W cu.toList u) (hT : TabS (heapOf W)) :
    Calls Tryd.prog 8 #[.agg ct, .agg cu] W fun e w' => e = .returned (.bool true) ∧ Below W.heap.size W w' := by
  obtain ⟨hit, hot⟩ := ht
  obtain ⟨it, ict, rt, rct, yt, yct, hcs, _⟩ := id hit.vals
  obtain rfl : ct = #[(.int .i64 t.k), (.int .i64 t.n), (.string t.nm), (.slice it t.is.length ict), (.slice rt t.rs.length rct), (.slice yt t.bs.length yct)] := by rw [← Array.toArray_toList (xs := ct), hcs]; rfl
  have hit : TIn (heapOf W) t [(.int .i64 t.k), (.int .i64 t.n), (.string t.nm), (.slice it t.is.length ict), (.slice rt t.rs.length rct), (.slice yt t.bs.length yct)] := hit
  have HOt := hid hot
  have HIt := hid hit
  clear hcs hot hit
  obtain ⟨hiu, hou⟩ := hu
  obtain ⟨iu, icu, ru, rcu, yu, ycu, hcs, _⟩ := id hiu.vals
  obtain rfl : cu = #[(.int .i64 u.k), (.int .i64 u.n), (.string u.nm), (.slice iu u.is.length icu), (.slice ru u.rs.length rcu), (.slice yu u.bs.length ycu)] := by rw [← Array.toArray_toList (xs := cu), hcs]; rfl
  have hiu : TIn (heapOf W) u [(.int .i64 u.k), (.int .i64 u.n), (.string u.nm), (.slice iu u.is.length icu), (.slice ru u.rs.length rcu), (.slice yu u.bs.length ycu)] := hiu
  have HOu := hid hou
  have HIu := hid hiu
  clear hcs hou hiu
  have SS0 := ((Sat.startArch W).allocAt (k := W.heap.size) (.cells #[(.int .i64 t.k), (.int .i64 t.n), (.string t.nm), (.slice it t.is.length ict), (.slice rt t.rs.length rct), (.slice yt t.bs.length yct)] 35) rfl).allocAt (k := W.heap.size + 1) (.cells #[(.int .i64 u.k), (.int .i64 u.n), (.string u.nm), (.slice iu u.is.length icu), (.slice ru u.rs.length rcu), (.slice yu u.bs.length ycu)] 35) (by simp)
  have SS : Hid (Sat W _ (arch (heapOf W) :: [blk (W.heap.size) (.cells #[(.int .i64 t.k), (.int .i64 t.n), (.string t.nm), (.slice it t.is.length ict), (.slice rt t.rs.length rct), (.slice yt t.bs.length yct)] 35 (0, 0)), blk (W.heap.size + 1) (.cells #[(.int .i64 u.k), (.int .i64 u.n), (.string u.nm), (.slice iu u.is.length icu), (.slice ru u.rs.length rcu), (.slice yu u.bs.length ycu)] 35 (0, 0))])) := hid (SS0.sel [2, 1, 0])
  have SL := hid (Le.refl (heapOf W))
  have HCt : Hid (∀ (w : World) (h' : Nat → Option Obj), Le (heapOf W) h' → Sat W w (arch h' :: [blk (W.heap.size) (.cells #[(.int .i64 t.k), (.int .i64 t.n), (.string t.nm), (.slice it t.is.length ict), (.slice rt t.rs.length rct), (.slice yt t.bs.length yct)] 35 (0, 0)), blk (W.heap.size + 1) (.cells #[(.int .i64 u.k), (.int .i64 u.n), (.string u.nm), (.slice iu u.is.length icu), (.slice ru u.rs.length rcu), (.slice yu u.bs.length ycu)] 35 (0, 0))]) → _) := hid (fun w h' l s => copy_lit8 s t (TIn.mono l _ HIt.out) HOt.out)
  have HCu : Hid (∀ (w : World) (h' : Nat → Option Obj), Le (heapOf W) h' → Sat W w (arch h' :: [blk (W.heap.size) (.cells #[(.int .i64 t.k), (.int .i64 t.n), (.string t.nm), (.slice it t.is.length ict), (.slice rt t.rs.length rct), (.slice yt t.bs.length yct)] 35 (0, 0)), blk (W.heap.size + 1) (.cells #[(.int .i64 u.k), (.int .i64 u.n), (.string u.nm), (.slice iu u.is.length icu), (.slice ru u.rs.length rcu), (.slice yu u.bs.length ycu)] 35 (0, 0))]) → _) := hid (fun w h' l s => copy_lit8 s u (TIn.mono l _ HIu.out) HOu.out)
  have HF : Hid (∀ (w' : World) (h' : Nat → Option Obj), Sat W w' (arch h' :: [blk (W.heap.size) (.cells #[(.int .i64 t.k), (.int .i64 t.n), (.string t.nm), (.slice it t.is.length ict), (.slice rt t.rs.length rct), (.slice yt t.bs.length yct)] 35 (0, 0)), blk (W.heap.size + 1) (.cells #[(.int .i64 u.k), (.int .i64 u.n), (.string u.nm), (.slice iu u.is.length icu), (.slice ru u.rs.length rcu), (.slice yu u.bs.length ycu)] 35 (0, 0))]) → World.cell? w' ⟨W.heap.size, 0, none⟩ = some (.int .i64 t.k) ∧ World.cell? w' ⟨W.heap.size, 1, none⟩ = some (.int .i64 t.n) ∧ World.cell? w' ⟨W.heap.size, 2, none⟩ = some (.string t.nm) ∧ World.cell? w' ⟨W.heap.size, 3, none⟩ = some (.slice it t.is.length ict) ∧ World.cell? w' ⟨W.heap.size, 4, none⟩ = some (.slice rt t.rs.length rct) ∧ World.cell? w' ⟨W.heap.size, 5, none⟩ = some (.slice yt t.bs.length yct) ∧ World.cell? w' ⟨W.heap.size + 1, 0, none⟩ = some (.int .i64 u.k) ∧ World.cell? w' ⟨W.heap.size + 1, 1, none⟩ = some (.int .i64 u.n) ∧ World.cell? w' ⟨W.heap.size + 1, 2, none⟩ = some (.string u.nm) ∧ World.cell? w' ⟨W.heap.size + 1, 3, none⟩ = some (.slice iu u.is.length icu) ∧ World.cell? w' ⟨W.heap.size + 1, 4, none⟩ = some (.slice ru u.rs.length rcu) ∧ World.cell? w' ⟨W.heap.size + 1, 5, none⟩ = some (.slice yu u.bs.length ycu)) := hid (fun w' h' x => ⟨(x.swap.cell 0).trans rfl, (x.swap.cell 1).trans rfl, (x.swap.cell 2).trans rfl, (x.swap.cell 3).trans rfl, (x.swap.cell 4).trans rfl, (x.swap.cell 5).trans rfl, (x.rot3.cell 0).trans rfl, (x.rot3.cell 1).trans rfl, (x.rot3.cell 2).trans rfl, (x.rot3.cell 3).trans rfl, (x.rot3.cell 4).trans rfl, (x.rot3.cell 5).trans rfl⟩)
  have HQ := hid hT
  clear SS0 hT
  go_enter Tryd.func8, Tryd.ntmps8
  go_wp2_with fail
  refine (HCt.out _ _ SL.out SS.out).mono ?_
  rintro e w1 ⟨i1, ic1, r1, rc1, y1, yc1, h1, rfl, l, q, s⟩
  have HR := hid (right_lit s t q HOt.out)
  replace SL := hid (SL.out.trans l)
  replace SS := hid s
  clear l q s
  go_wp2_with fail
  refine HR.out.mono ?_
  rintro e w2 ⟨v2, h2, rfl, l, e2, s⟩
  replace SL := hid (SL.out.trans l)
  replace SS := hid s
  clear l s HR
  cases hrt : rightOf t with
  | some nk =>
    obtain ⟨n, k⟩ := nk
    rw [hrt] at e2
    have e2 : ErrIn h2 v2 [(tTerm, n)] k := e2
    obtain ⟨ty, x, rfl⟩ := e2.iface
    clear e2 hrt
    go_wp2_with fail
    refine (awake8 (HQ.out.mono SL.out) SS.out).mono ?_
    rintro e w9 ⟨h9, rfl, l9, s9⟩
    have L9 := hid (SL.out.trans l9)
    have S9 := hid s9
    clear s9 l9 SS
    go_wp2_with fail
    go_ret
    exact ⟨rfl, S9.out.archBelow L9.out⟩
  | none =>
    rw [hrt] at e2
    have e2 : v2 = .nilIface := e2
    subst e2
    have HRt := hid hrt
    clear hrt
    obtain ⟨kt0, kt1, kt2, kt3, kt4, kt5, ku0, ku1, ku2, ku3, ku4, ku5⟩ := HF.out _ _ SS.out
    go_wp2_with fail
    refine (HCu.out _ _ SL.out SS.out).mono ?_
    rintro e w1 ⟨i1, ic1, r1, rc1, y1, yc1, h1, rfl, l, q, s⟩
    have HR := hid (right_lit s u q HOu.out)
    replace SL := hid (SL.out.trans l)
    replace SS := hid s
    clear l q s kt0 kt1 kt2 kt3 kt4 kt5 ku0 ku1 ku2 ku3 ku4 ku5
    go_wp2_with fail
    refine HR.out.mono ?_
    rintro e w2 ⟨v2, h2, rfl, l, e2, s⟩
    replace SL := hid (SL.out.trans l)
    replace SS := hid s
    clear l s HR
    cases hru : rightOf u with
    | some nk =>
      obtain ⟨n, k⟩ := nk
      rw [hru] at e2
      have e2 : ErrIn h2 v2 [(tTerm, n)] k := e2
      obtain ⟨ty, x, rfl⟩ := e2.iface
      clear e2 hru
      go_wp2_with fail
      refine (awake8 (HQ.out.mono SL.out) SS.out).mono ?_
      rintro e w9 ⟨h9, rfl, l9, s9⟩
      have L9 := hid (SL.out.trans l9)
      have S9 := hid s9
      clear s9 l9 SS
      go_wp2_with fail
      go_ret
      exact ⟨rfl, S9.out.archBelow L9.out⟩
    | none =>
      rw [hru] at e2
      have e2 : v2 = .nilIface := e2
      subst e2
      have HRu := hid hru
      clear hru
      obtain ⟨r, HZ⟩ : ∃ r, Hid (cmp t u = r) := ⟨_, hid rfl⟩
      have HR3 : Hid (r = -1 ∨ r = 0 ∨ r = 1) := hid (by rw [← HZ.out]; exact cmp_three t u)
      go_upto_region 3 with fail
      go_cut [5] from 23 to 27 (fun sv wd => sv = .int .i64 r ∧ ∃ h', Hid (Le (heapOf W) h') ∧ Hid (Sat W wd (arch h' :: [blk (W.heap.size) (.cells #[(.int .i64 t.k), (.int .i64 t.n), (.string t.nm), (.slice it t.is.length ict), (.slice rt t.rs.length rct), (.slice yt t.bs.length yct)] 35 (0, 0)), blk (W.heap.size + 1) (.cells #[(.int .i64 u.k), (.int .i64 u.n), (.string u.nm), (.slice iu u.is.length icu), (.slice ru u.rs.length rcu), (.slice yu u.bs.length ycu)] 35 (0, 0))])))
      case first =>
        replace SS := hid SS.out.drew
        go_region_held3 (fun w' => World.cell? w' ⟨W.heap.size, 0, none⟩ = some (.int .i64 t.k) ∧ World.cell? w' ⟨W.heap.size, 1, none⟩ = some (.int .i64 t.n) ∧ World.cell? w' ⟨W.heap.size, 2, none⟩ = some (.string t.nm) ∧ World.cell? w' ⟨W.heap.size, 3, none⟩ = some (.slice it t.is.length ict) ∧ World.cell? w' ⟨W.heap.size, 4, none⟩ = some (.slice rt t.rs.length rct) ∧ World.cell? w' ⟨W.heap.size, 5, none⟩ = some (.slice yt t.bs.length yct) ∧ World.cell? w' ⟨W.heap.size + 1, 0, none⟩ = some (.int .i64 u.k) ∧ World.cell? w' ⟨W.heap.size + 1, 1, none⟩ = some (.int .i64 u.n) ∧ World.cell? w' ⟨W.heap.size + 1, 2, none⟩ = some (.string u.nm) ∧ World.cell? w' ⟨W.heap.size + 1, 3, none⟩ = some (.slice iu u.is.length icu) ∧ World.cell? w' ⟨W.heap.size + 1, 4, none⟩ = some (.slice ru u.rs.length rcu) ∧ World.cell? w' ⟨W.heap.size + 1, 5, none⟩ = some (.slice yu u.bs.length ycu)) (exact HF.out _ _ SS.out) (first
          | (go_at_call 20
             fail_if_success have tok := Qt1.out
             with_reducible refine (HCt.out _ _ SL.out SS.out).mono ?_
             rintro e wt1 ⟨itt1, ictt1, rtt1, rctt1, ytt1, yctt1, ht1, rfl, l, q, s⟩
             try replace Qu1 := hid (TIn.mono l _ Qu1.out)
             have Qt1 := hid q
             replace SL := hid (SL.out.trans l)
             replace SS := hid s
             clear l q s)
          | (go_at_call 20
             fail_if_success have tok := Qu1.out
             with_reducible refine (HCu.out _ _ SL.out SS.out).mono ?_
             rintro e wu2 ⟨iuu1, icuu1, ruu1, rcuu1, yuu1, ycuu1, hu2, rfl, l, q, s⟩
             try replace Qt1 := hid (TIn.mono l _ Qt1.out)
             have Qu1 := hid q
             replace SL := hid (SL.out.trans l)
             replace SS := hid s
             clear l q s)
          | (go_at_call 27
             with_reducible refine (cmp_lit8 SS.out t u Qt1.out Qu1.out HOt.out HOu.out HRt.out HRu.out HZ.out).mono ?_
             rintro e wc ⟨rfl, s⟩
             replace SS := hid s
             clear s Qt1 Qu1))
        all_goals go_wp2_with fail
        all_goals go_meet
        all_goals exact ⟨rfl, _, SL, SS⟩
      case rest =>
        clear SL SS
        obtain ⟨rfl, h3, SL, S⟩ := hcut
        replace HQ := hid (HQ.out.mono SL.out)
        have HL := SL
        have It := hid (TIn.mono SL.out _ HIt.out)
        have Iu := hid (TIn.mono SL.out _ HIu.out)
        clear HF HCt HCu SL HIt HIu
        rcases HR3.out with rfl | rfl | rfl
        · clear HR3
          have kt0 := S.out.swap.cell 0
          have kt1 := S.out.swap.cell 1
          have kt2 := S.out.swap.cell 2
          have kt3 := S.out.swap.cell 3
          have kt4 := S.out.swap.cell 4
          have kt5 := S.out.swap.cell 5
          have ku0 := S.out.rot3.cell 0
          have ku1 := S.out.rot3.cell 1
          have ku2 := S.out.rot3.cell 2
          have ku3 := S.out.rot3.cell 3
          have ku4 := S.out.rot3.cell 4
          have ku5 := S.out.rot3.cell 5
          simp only [List.getElem?_toArray, List.getElem?_cons_succ, List.getElem?_cons_zero] at kt0 kt1 kt2 kt3 kt4 kt5 ku0 ku1 ku2 ku3 ku4 ku5
          have SB := hid (S.out.alloc (.cells #[(.int .i64 t.k), (.int .i64 t.n), (.string t.nm), (.slice it t.is.length ict), (.slice rt t.rs.length rct), (.slice yt t.bs.length yct), (.int .i64 u.k), (.int .i64 u.n), (.string u.nm), (.slice iu u.is.length icu), (.slice ru u.rs.length rcu), (.slice yu u.bs.length ycu)] 35))
          have HA := hid (do_eq HQ.out SB.out t u It.out Iu.out HOt.out HOu.out HRt.out HRu.out (s := ⟨#[102, 97, 108, 115, 101]⟩) (by rw [HZ.out]; rfl))
          clear S
          go_wp2_with fail
          clear kt0 kt1 kt2 kt3 kt4 kt5 ku0 ku1 ku2 ku3 ku4 ku5
          refine HA.out.mono ?_
          rintro e w4 ⟨ia4, ic4, ra4, rc4, ba4, bc4, h4, rfl, l, s⟩
          obtain ⟨xb4, HXB4⟩ : ∃ xb, Hid (w4.heap.size = xb) := ⟨_, hid rfl⟩
          have S := hid (s.allocAt (k := w4.heap.size) (.cells #[.int .i64 2, .int .i64 0, .string ⟨#[102, 97, 108, 115, 101]⟩, .slice ia4 0 ic4, .slice ra4 0 rc4, .slice ba4 0 bc4] 35) rfl).swap
          rw [HXB4.out] at S
          replace HQ := hid (HQ.out.mono l)
          replace HL := hid (HL.out.trans l)
          replace It := hid (TIn.mono l _ It.out)
          replace Iu := hid (TIn.mono l _ Iu.out)
          clear l s SB HA
          have hx4 := HXB4.out
          have kt0 := S.out.rot3.cell 0
          have kt1 := S.out.rot3.cell 1
          have kt2 := S.out.rot3.cell 2
          have kt3 := S.out.rot3.cell 3
          have kt4 := S.out.rot3.cell 4
          have kt5 := S.out.rot3.cell 5
          have ku0 := S.out.rot4.cell 0
          have ku1 := S.out.rot4.cell 1
          have ku2 := S.out.rot4.cell 2
          have ku3 := S.out.rot4.cell 3
          have ku4 := S.out.rot4.cell 4
          have ku5 := S.out.rot4.cell 5
          simp only [List.getElem?_toArray, List.getElem?_cons_succ, List.getElem?_cons_zero] at kt0 kt1 kt2 kt3 kt4 kt5 ku0 ku1 ku2 ku3 ku4 ku5
          have SB := hid (S.out.allocAt (k := xb4 + 1) (.cells #[(.int .i64 t.k), (.int .i64 t.n), (.string t.nm), (.slice it t.is.length ict), (.slice rt t.rs.length rct), (.slice yt t.bs.length yct), (.int .i64 u.k), (.int .i64 u.n), (.string u.nm), (.slice iu u.is.length icu), (.slice ru u.rs.length rcu), (.slice yu u.bs.length ycu)] 35) (by simp [hx4]))
          have HA := hid (do_lt HQ.out SB.out t u It.out Iu.out HOt.out HOu.out HRt.out HRu.out (s := ⟨#[116, 114, 117, 101]⟩) (by rw [HZ.out]; rfl))
          clear S
          go_wp2_with fail
          clear kt0 kt1 kt2 kt3 kt4 kt5 ku0 ku1 ku2 ku3 ku4 ku5
          refine HA.out.mono ?_
          rintro e w5 ⟨ia5, ic5, ra5, rc5, ba5, bc5, h5, rfl, l, s⟩
          obtain ⟨xb5, HXB5⟩ : ∃ xb, Hid (w5.heap.size = xb) := ⟨_, hid rfl⟩
          have S := hid (s.allocAt (k := w5.heap.size) (.cells #[.int .i64 2, .int .i64 0, .string ⟨#[116, 114, 117, 101]⟩, .slice ia5 0 ic5, .slice ra5 0 rc5, .slice ba5 0 bc5] 35) rfl).swap
          rw [HXB5.out] at S
          replace HQ := hid (HQ.out.mono l)
          replace HL := hid (HL.out.trans l)
          replace It := hid (TIn.mono l _ It.out)
          replace Iu := hid (TIn.mono l _ Iu.out)
          clear l s SB HA
          have hx5 := HXB5.out
          have kt0 := S.out.rot4.cell 0
          have kt1 := S.out.rot4.cell 1
          have kt2 := S.out.rot4.cell 2
          have kt3 := S.out.rot4.cell 3
          have kt4 := S.out.rot4.cell 4
          have kt5 := S.out.rot4.cell 5
          have ku0 := S.out.rot5.cell 0
          have ku1 := S.out.rot5.cell 1
          have ku2 := S.out.rot5.cell 2
          have ku3 := S.out.rot5.cell 3
          have ku4 := S.out.rot5.cell 4
          have ku5 := S.out.rot5.cell 5
          simp only [List.getElem?_toArray, List.getElem?_cons_succ, List.getElem?_cons_zero] at kt0 kt1 kt2 kt3 kt4 kt5 ku0 ku1 ku2 ku3 ku4 ku5
          have SB := hid (S.out.allocAt (k := xb5 + 1) (.cells #[(.int .i64 t.k), (.int .i64 t.n), (.string t.nm), (.slice it t.is.length ict), (.slice rt t.rs.length rct), (.slice yt t.bs.length yct), (.int .i64 u.k), (.int .i64 u.n), (.string u.nm), (.slice iu u.is.length icu), (.slice ru u.rs.length rcu), (.slice yu u.bs.length ycu)] 35) (by simp [hx5]))
          have HA := hid (do_compare HQ.out SB.out t u It.out Iu.out HOt.out HOu.out HRt.out HRu.out HZ.out (by unfold fits; omega))
          clear S
          go_wp2_with fail
          clear kt0 kt1 kt2 kt3 kt4 kt5 ku0 ku1 ku2 ku3 ku4 ku5
          refine HA.out.mono ?_
          rintro e w6 ⟨ia6, ic6, ra6, rc6, ba6, bc6, h6, rfl, l, s, _⟩
          obtain ⟨xb6, HXB6⟩ : ∃ xb, Hid (w6.heap.size = xb) := ⟨_, hid rfl⟩
          have S := hid (s.allocAt (k := w6.heap.size) (.cells #[.int .i64 1, .int .i64 (-1), .string ⟨#[]⟩, .slice ia6 0 ic6, .slice ra6 0 rc6, .slice ba6 0 bc6] 35) rfl).swap
          rw [HXB6.out] at S
          replace HQ := hid (HQ.out.mono l)
          replace HL := hid (HL.out.trans l)
          replace It := hid (TIn.mono l _ It.out)
          replace Iu := hid (TIn.mono l _ Iu.out)
          clear l s SB HA
          have hx6 := HXB6.out
          have c4 := S.out.rot4.cell 2
          have c5 := S.out.rot3.cell 2
          have c6 := S.out.swap.cell 1
          simp only [List.getElem?_toArray, List.getElem?_cons_succ, List.getElem?_cons_zero] at c4 c5 c6
          have HA := hid (awake8 HQ.out S.out)
          go_wp2_with fail
          refine HA.out.mono ?_
          rintro e w9 ⟨h9, rfl, l9, s9⟩
          go_wp2_with fail
          go_ret
          exact ⟨rfl, s9.archBelow (HL.out.trans l9)⟩
        · clear HR3
          have kt0 := S.out.swap.cell 0
          have kt1 := S.out.swap.cell 1
          have kt2 := S.out.swap.cell 2
          have kt3 := S.out.swap.cell 3
          have kt4 := S.out.swap.cell 4
          have kt5 := S.out.swap.cell 5
          have ku0 := S.out.rot3.cell 0
          have ku1 := S.out.rot3.cell 1
          have ku2 := S.out.rot3.cell 2
          have ku3 := S.out.rot3.cell 3
          have ku4 := S.out.rot3.cell 4
          have ku5 := S.out.rot3.cell 5
          simp only [List.getElem?_toArray, List.getElem?_cons_succ, List.getElem?_cons_zero] at kt0 kt1 kt2 kt3 kt4 kt5 ku0 ku1 ku2 ku3 ku4 ku5
          have SB := hid (S.out.alloc (.cells #[(.int .i64 t.k), (.int .i64 t.n), (.string t.nm), (.slice it t.is.length ict), (.slice rt t.rs.length rct), (.slice yt t.bs.length yct), (.int .i64 u.k), (.int .i64 u.n), (.string u.nm), (.slice iu u.is.length icu), (.slice ru u.rs.length rcu), (.slice yu u.bs.length ycu)] 35))
          have HA := hid (do_eq HQ.out SB.out t u It.out Iu.out HOt.out HOu.out HRt.out HRu.out (s := ⟨#[116, 114, 117, 101]⟩) (by rw [HZ.out]; rfl))
          clear S
          go_wp2_with fail
          clear kt0 kt1 kt2 kt3 kt4 kt5 ku0 ku1 ku2 ku3 ku4 ku5
          refine HA.out.mono ?_
          rintro e w4 ⟨ia4, ic4, ra4, rc4, ba4, bc4, h4, rfl, l, s⟩
          obtain ⟨xb4, HXB4⟩ : ∃ xb, Hid (w4.heap.size = xb) := ⟨_, hid rfl⟩
          have S := hid (s.allocAt (k := w4.heap.size) (.cells #[.int .i64 2, .int .i64 0, .string ⟨#[116, 114, 117, 101]⟩, .slice ia4 0 ic4, .slice ra4 0 rc4, .slice ba4 0 bc4] 35) rfl).swap
          rw [HXB4.out] at S
          replace HQ := hid (HQ.out.mono l)
          replace HL := hid (HL.out.trans l)
          replace It := hid (TIn.mono l _ It.out)
          replace Iu := hid (TIn.mono l _ Iu.out)
          clear l s SB HA
          have hx4 := HXB4.out
          have kt0 := S.out.rot3.cell 0
          have kt1 := S.out.rot3.cell 1
          have kt2 := S.out.rot3.cell 2
          have kt3 := S.out.rot3.cell 3
          have kt4 := S.out.rot3.cell 4
          have kt5 := S.out.rot3.cell 5
          have ku0 := S.out.rot4.cell 0
          have ku1 := S.out.rot4.cell 1
          have ku2 := S.out.rot4.cell 2
          have ku3 := S.out.rot4.cell 3
          have ku4 := S.out.rot4.cell 4
          have ku5 := S.out.rot4.cell 5
          simp only [List.getElem?_toArray, List.getElem?_cons_succ, List.getElem?_cons_zero] at kt0 kt1 kt2 kt3 kt4 kt5 ku0 ku1 ku2 ku3 ku4 ku5
          have SB := hid (S.out.allocAt (k := xb4 + 1) (.cells #[(.int .i64 t.k), (.int .i64 t.n), (.string t.nm), (.slice it t.is.length ict), (.slice rt t.rs.length rct), (.slice yt t.bs.length yct), (.int .i64 u.k), (.int .i64 u.n), (.string u.nm), (.slice iu u.is.length icu), (.slice ru u.rs.length rcu), (.slice yu u.bs.length ycu)] 35) (by simp [hx4]))
          have HA := hid (do_lt HQ.out SB.out t u It.out Iu.out HOt.out HOu.out HRt.out HRu.out (s := ⟨#[102, 97, 108, 115, 101]⟩) (by rw [HZ.out]; rfl))
          clear S
          go_wp2_with fail
          clear kt0 kt1 kt2 kt3 kt4 kt5 ku0 ku1 ku2 ku3 ku4 ku5
          refine HA.out.mono ?_
          rintro e w5 ⟨ia5, ic5, ra5, rc5, ba5, bc5, h5, rfl, l, s⟩
          obtain ⟨xb5, HXB5⟩ : ∃ xb, Hid (w5.heap.size = xb) := ⟨_, hid rfl⟩
          have S := hid (s.allocAt (k := w5.heap.size) (.cells #[.int .i64 2, .int .i64 0, .string ⟨#[102, 97, 108, 115, 101]⟩, .slice ia5 0 ic5, .slice ra5 0 rc5, .slice ba5 0 bc5] 35) rfl).swap
          rw [HXB5.out] at S
          replace HQ := hid (HQ.out.mono l)
          replace HL := hid (HL.out.trans l)
          replace It := hid (TIn.mono l _ It.out)
          replace Iu := hid (TIn.mono l _ Iu.out)
          clear l s SB HA
          have hx5 := HXB5.out
          have kt0 := S.out.rot4.cell 0
          have kt1 := S.out.rot4.cell 1
          have kt2 := S.out.rot4.cell 2
          have kt3 := S.out.rot4.cell 3
          have kt4 := S.out.rot4.cell 4
          have kt5 := S.out.rot4.cell 5
          have ku0 := S.out.rot5.cell 0
          have ku1 := S.out.rot5.cell 1
          have ku2 := S.out.rot5.cell 2
          have ku3 := S.out.rot5.cell 3
          have ku4 := S.out.rot5.cell 4
          have ku5 := S.out.rot5.cell 5
          simp only [List.getElem?_toArray, List.getElem?_cons_succ, List.getElem?_cons_zero] at kt0 kt1 kt2 kt3 kt4 kt5 ku0 ku1 ku2 ku3 ku4 ku5
          have SB := hid (S.out.allocAt (k := xb5 + 1) (.cells #[(.int .i64 t.k), (.int .i64 t.n), (.string t.nm), (.slice it t.is.length ict), (.slice rt t.rs.length rct), (.slice yt t.bs.length yct), (.int .i64 u.k), (.int .i64 u.n), (.string u.nm), (.slice iu u.is.length icu), (.slice ru u.rs.length rcu), (.slice yu u.bs.length ycu)] 35) (by simp [hx5]))
          have HA := hid (do_compare HQ.out SB.out t u It.out Iu.out HOt.out HOu.out HRt.out HRu.out HZ.out (by unfold fits; omega))
          clear S
          go_wp2_with fail
          clear kt0 kt1 kt2 kt3 kt4 kt5 ku0 ku1 ku2 ku3 ku4 ku5
          refine HA.out.mono ?_
          rintro e w6 ⟨ia6, ic6, ra6, rc6, ba6, bc6, h6, rfl, l, s, _⟩
          obtain ⟨xb6, HXB6⟩ : ∃ xb, Hid (w6.heap.size = xb) := ⟨_, hid rfl⟩
          have S := hid (s.allocAt (k := w6.heap.size) (.cells #[.int .i64 1, .int .i64 (0), .string ⟨#[]⟩, .slice ia6 0 ic6, .slice ra6 0 rc6, .slice ba6 0 bc6] 35) rfl).swap
          rw [HXB6.out] at S
          replace HQ := hid (HQ.out.mono l)
          replace HL := hid (HL.out.trans l)
          replace It := hid (TIn.mono l _ It.out)
          replace Iu := hid (TIn.mono l _ Iu.out)
          clear l s SB HA
          have hx6 := HXB6.out
          have c4 := S.out.rot4.cell 2
          have c5 := S.out.rot3.cell 2
          have c6 := S.out.swap.cell 1
          simp only [List.getElem?_toArray, List.getElem?_cons_succ, List.getElem?_cons_zero] at c4 c5 c6
          have HA := hid (awake8 HQ.out S.out)
          go_wp2_with fail
          refine HA.out.mono ?_
          rintro e w9 ⟨h9, rfl, l9, s9⟩
          go_wp2_with fail
          go_ret
          exact ⟨rfl, s9.archBelow (HL.out.trans l9)⟩
        · clear HR3
          have kt0 := S.out.swap.cell 0
          have kt1 := S.out.swap.cell 1
          have kt2 := S.out.swap.cell 2
          have kt3 := S.out.swap.cell 3
          have kt4 := S.out.swap.cell 4
          have kt5 := S.out.swap.cell 5
          have ku0 := S.out.rot3.cell 0
          have ku1 := S.out.rot3.cell 1
          have ku2 := S.out.rot3.cell 2
          have ku3 := S.out.rot3.cell 3
          have ku4 := S.out.rot3.cell 4
          have ku5 := S.out.rot3.cell 5
          simp only [List.getElem?_toArray, List.getElem?_cons_succ, List.getElem?_cons_zero] at kt0 kt1 kt2 kt3 kt4 kt5 ku0 ku1 ku2 ku3 ku4 ku5
          have SB := hid (S.out.alloc (.cells #[(.int .i64 t.k), (.int .i64 t.n), (.string t.nm), (.slice it t.is.length ict), (.slice rt t.rs.length rct), (.slice yt t.bs.length yct), (.int .i64 u.k), (.int .i64 u.n), (.string u.nm), (.slice iu u.is.length icu), (.slice ru u.rs.length rcu), (.slice yu u.bs.length ycu)] 35))
          have HA := hid (do_eq HQ.out SB.out t u It.out Iu.out HOt.out HOu.out HRt.out HRu.out (s := ⟨#[102, 97, 108, 115, 101]⟩) (by rw [HZ.out]; rfl))
          clear S
          go_wp2_with fail
          clear kt0 kt1 kt2 kt3 kt4 kt5 ku0 ku1 ku2 ku3 ku4 ku5
          refine HA.out.mono ?_
          rintro e w4 ⟨ia4, ic4, ra4, rc4, ba4, bc4, h4, rfl, l, s⟩
          obtain ⟨xb4, HXB4⟩ : ∃ xb, Hid (w4.heap.size = xb) := ⟨_, hid rfl⟩
          have S := hid (s.allocAt (k := w4.heap.size) (.cells #[.int .i64 2, .int .i64 0, .string ⟨#[102, 97, 108, 115, 101]⟩, .slice ia4 0 ic4, .slice ra4 0 rc4, .slice ba4 0 bc4] 35) rfl).swap
          rw [HXB4.out] at S
          replace HQ := hid (HQ.out.mono l)
          replace HL := hid (HL.out.trans l)
          replace It := hid (TIn.mono l _ It.out)
          replace Iu := hid (TIn.mono l _ Iu.out)
          clear l s SB HA
          have hx4 := HXB4.out
          have kt0 := S.out.rot3.cell 0
          have kt1 := S.out.rot3.cell 1
          have kt2 := S.out.rot3.cell 2
          have kt3 := S.out.rot3.cell 3
          have kt4 := S.out.rot3.cell 4
          have kt5 := S.out.rot3.cell 5
          have ku0 := S.out.rot4.cell 0
          have ku1 := S.out.rot4.cell 1
          have ku2 := S.out.rot4.cell 2
          have ku3 := S.out.rot4.cell 3
          have ku4 := S.out.rot4.cell 4
          have ku5 := S.out.rot4.cell 5
          simp only [List.getElem?_toArray, List.getElem?_cons_succ, List.getElem?_cons_zero] at kt0 kt1 kt2 kt3 kt4 kt5 ku0 ku1 ku2 ku3 ku4 ku5
          have SB := hid (S.out.allocAt (k := xb4 + 1) (.cells #[(.int .i64 t.k), (.int .i64 t.n), (.string t.nm), (.slice it t.is.length ict), (.slice rt t.rs.length rct), (.slice yt t.bs.length yct), (.int .i64 u.k), (.int .i64 u.n), (.string u.nm), (.slice iu u.is.length icu), (.slice ru u.rs.length rcu), (.slice yu u.bs.length ycu)] 35) (by simp [hx4]))
          have HA := hid (do_lt HQ.out SB.out t u It.out Iu.out HOt.out HOu.out HRt.out HRu.out (s := ⟨#[102, 97, 108, 115, 101]⟩) (by rw [HZ.out]; rfl))
          clear S
          go_wp2_with fail
          clear kt0 kt1 kt2 kt3 kt4 kt5 ku0 ku1 ku2 ku3 ku4 ku5
          refine HA.out.mono ?_
          rintro e w5 ⟨ia5, ic5, ra5, rc5, ba5, bc5, h5, rfl, l, s⟩
          obtain ⟨xb5, HXB5⟩ : ∃ xb, Hid (w5.heap.size = xb) := ⟨_, hid rfl⟩
          have S := hid (s.allocAt (k := w5.heap.size) (.cells #[.int .i64 2, .int .i64 0, .string ⟨#[102, 97, 108, 115, 101]⟩, .slice ia5 0 ic5, .slice ra5 0 rc5, .slice ba5 0 bc5] 35) rfl).swap
          rw [HXB5.out] at S
          replace HQ := hid (HQ.out.mono l)
          replace HL := hid (HL.out.trans l)
          replace It := hid (TIn.mono l _ It.out)
          replace Iu := hid (TIn.mono l _ Iu.out)
          clear l s SB HA
          have hx5 := HXB5.out
          have kt0 := S.out.rot4.cell 0
          have kt1 := S.out.rot4.cell 1
          have kt2 := S.out.rot4.cell 2
          have kt3 := S.out.rot4.cell 3
          have kt4 := S.out.rot4.cell 4
          have kt5 := S.out.rot4.cell 5
          have ku0 := S.out.rot5.cell 0
          have ku1 := S.out.rot5.cell 1
          have ku2 := S.out.rot5.cell 2
          have ku3 := S.out.rot5.cell 3
          have ku4 := S.out.rot5.cell 4
          have ku5 := S.out.rot5.cell 5
          simp only [List.getElem?_toArray, List.getElem?_cons_succ, List.getElem?_cons_zero] at kt0 kt1 kt2 kt3 kt4 kt5 ku0 ku1 ku2 ku3 ku4 ku5
          have SB := hid (S.out.allocAt (k := xb5 + 1) (.cells #[(.int .i64 t.k), (.int .i64 t.n), (.string t.nm), (.slice it t.is.length ict), (.slice rt t.rs.length rct), (.slice yt t.bs.length yct), (.int .i64 u.k), (.int .i64 u.n), (.string u.nm), (.slice iu u.is.length icu), (.slice ru u.rs.length rcu), (.slice yu u.bs.length ycu)] 35) (by simp [hx5]))
          have HA := hid (do_compare HQ.out SB.out t u It.out Iu.out HOt.out HOu.out HRt.out HRu.out HZ.out (by unfold fits; omega))
          clear S
          go_wp2_with fail
          clear kt0 kt1 kt2 kt3 kt4 kt5 ku0 ku1 ku2 ku3 ku4 ku5
          refine HA.out.mono ?_
          rintro e w6 ⟨ia6, ic6, ra6, rc6, ba6, bc6, h6, rfl, l, s, _⟩
          obtain ⟨xb6, HXB6⟩ : ∃ xb, Hid (w6.heap.size = xb) := ⟨_, hid rfl⟩
          have S := hid (s.allocAt (k := w6.heap.size) (.cells #[.int .i64 1, .int .i64 (1), .string ⟨#[]⟩, .slice ia6 0 ic6, .slice ra6 0 rc6, .slice ba6 0 bc6] 35) rfl).swap
          rw [HXB6.out] at S
          replace HQ := hid (HQ.out.mono l)
          replace HL := hid (HL.out.trans l)
          replace It := hid (TIn.mono l _ It.out)
          replace Iu := hid (TIn.mono l _ Iu.out)
          clear l s SB HA
          have hx6 := HXB6.out
          have c4 := S.out.rot4.cell 2
          have c5 := S.out.rot3.cell 2
          have c6 := S.out.swap.cell 1
          simp only [List.getElem?_toArray, List.getElem?_cons_succ, List.getElem?_cons_zero] at c4 c5 c6
          have HA := hid (awake8 HQ.out S.out)
          go_wp2_with fail
          refine HA.out.mono ?_
          rintro e w9 ⟨h9, rfl, l9, s9⟩
          go_wp2_with fail
          go_ret
          exact ⟨rfl, s9.archBelow (HL.out.trans l9)⟩
#print axioms bo_walk
end Go.Proofs.YtlgogflhjpcmlaaDoor
