/-
  TreeOrders: the law's own walk. (Written by wip/gen/gen_laword.py.)
-/
import Derived.Test.YteaabbghnfideaaDoorOrdP
import Derived.Test.YteaabbghnfideaaDoorCAny
import Derived.Test.YteaabbghnfideaaDoorAwake
import Derived.Test.YteaabbghnfideaaDoorTCmpC
import Derived.Deep.RegionHeld3
namespace Go.Proofs.YteaabbghnfideaaDoor
open Go.RowKit
set_option maxHeartbeats 8000000
set_option maxRecDepth 100000

/-- an operation that yields is taken first; its slot is named -/
theorem wpAnyH_takeD {P : Program} {ops : Array Oper} {Q : Exit → Act → World → Prop} {md : Region.Mode} {S : World → Prop} {i d : Nat} {oi : Oper} {v : Value} {fuel : Nat} {listed : Array Bool} {a : Act} {w : World} (hi : ops[i]? = some oi) (hd : oi.dst = some d)
    (hs : Region.noSelect ops = true) (hf : Region.free md ops listed i = true) (hr : (Region.ready md ops listed).contains i = true)
    (hQ : ∀ c a w, Q (.panic c) (a.put oi.dst v) w → Q (.panic c) a w) (hy : YieldsIf P ops S oi v a) (hS : S w)
    (h : wpAnyH P md ops Q S fuel (listed.setIfInBounds i true) (a.put (some d) v) w) : wpAnyH P md ops Q S (fuel + 1) listed a w :=
  wpAnyH_take hi hs hf hr hQ hy hS (hd ▸ h)
theorem nok_of (t : T) : TOk t → NOk t := by
  have key : ∀ (l : List T), (∀ t ∈ l, NOk t) → LNOk l := by
    intro l
    induction l with
    | nil => intro _; simp [LNOk]
    | cons t l ih => intro f; unfold LNOk; exact ⟨f t (by simp), ih fun x hx => f x (by simp [hx])⟩
  induction t using T.ind with
  | h k n nm is rs bs ih1 ih2 =>
    intro hok
    have hf := hok.fit
    exact NOk.eq.2 ⟨hf.n, hf.b, key is fun x hx => ih1 x hx (hf.si x hx), key rs fun x hx => ih2 x hx (hf.sr x hx)⟩
theorem same_txt {t u : T} {q1 q2 : ByteArray} (h1 : byts q1 = txt t) (h2 : byts q2 = txt u) (ht : TOk t) (hu : TOk u) (rt : rightOf t = none) (ru : rightOf u = none) : (q1.toList == q2.toList) = (cmp t u == 0) := by
  by_cases h : cmp t u = 0
  · have e := cmp_zero _ t u (Nat.le_refl _) (right_fl rt) (right_fl ru) (nok_of t ht) (nok_of u hu) h
    subst e
    have : q1 = q2 := byts_inj (h1.trans h2.symm)
    rw [this, h]; simp
  · have hn : ¬ q1 = q2 := fun e => by
      subst e
      have e2 : txt t = txt u := h1.symm.trans h2
      have r1 := reads_all (right_fl rt) ht
      rw [e2, reads_all (right_fl ru) hu] at r1
      simp only [Option.some.injEq, Prod.mk.injEq, and_true] at r1
      subst r1
      exact h (cmp_self _ u (Nat.le_refl _) (right_fl ru))
    have : (q1.toList == q2.toList) = false := by
      cases hq : (q1.toList == q2.toList) with
      | false => rfl
      | true => exact absurd (ba_ext (eq_of_beq hq)) hn
    rw [this]
    symm
    simpa using h
theorem right_wt {t : T} (h : rightOf t = none) : wt t ≤ 196608 := by
  have h1 := wt_sz t
  have h2 := right_sz h
  omega
section
variable {W w : World} {L : List HP} {h : Nat → Option Obj}
theorem cmp_lit (S : Sat W w (arch h :: L)) (t u : T) {a0 a1 a2 a3 a4 a5 b0 b1 b2 b3 b4 b5 : Value} (hin : TIn h t [a0, a1, a2, a3, a4, a5]) (hiu : TIn h u [b0, b1, b2, b3, b4, b5]) (hot : TOk t) (hou : TOk u) (hrt : rightOf t = none) (hru : rightOf u = none) {z : Int} (hz : cmp t u = z) :
    Calls Tryd.prog 21 #[.agg #[a0, a1, a2, a3, a4, a5], .agg #[b0, b1, b2, b3, b4, b5]] w fun e w' => e = .returned (.int .i64 z) ∧ Sat W w' (arch h :: L) := by
  rw [← hz]
  exact compare_any S t u _ _ hin hiu hot hou (by have := right_wt hrt; have := right_wt hru; omega)
theorem right_lit (S : Sat W w (arch h :: L)) (t : T) {a0 a1 a2 a3 a4 a5 : Value} (hin : TIn h t [a0, a1, a2, a3, a4, a5]) (hok : TOk t) :
    Calls Tryd.prog 15 #[.agg #[a0, a1, a2, a3, a4, a5]] w fun e w' => ∃ v h', e = .returned v ∧ Le h h' ∧ ErrOf h' v (rightOf t) ∧ Sat W w' (arch h' :: L) := right_t S t _ hin hok
theorem write_lit (q : Tab h) (S : Sat W w (arch h :: L)) (t : T) {a0 a1 a2 a3 a4 a5 : Value} (hin : TIn h t [a0, a1, a2, a3, a4, a5]) (hok : TOk t) :
    Calls Tryd.prog 19 #[.agg #[a0, a1, a2, a3, a4, a5]] w fun e w' => ∃ s v h', e = .returned (.tuple #[s, v]) ∧ Le h h' ∧ WOf h' t s v ∧ Sat W w' (arch h' :: L) := write_any q S t _ hin hok
theorem c_lit (S : Sat W w (arch h :: L)) (t : T) {a0 a1 a2 a3 a4 a5 : Value} (hin : TIn h t [a0, a1, a2, a3, a4, a5]) (hok : TOk t) :
    Calls Tryd.prog 16 #[.agg #[a0, a1, a2, a3, a4, a5]] w fun e w' => ∃ ia ic ra rc ba bc h', e = .returned (.agg #[.int .i64 t.k, .int .i64 t.n, .string t.nm, .slice ia t.is.length ic, .slice ra t.rs.length rc, .slice ba t.bs.length bc]) ∧ Le h h' ∧ TIn h' t [.int .i64 t.k, .int .i64 t.n, .string t.nm, .slice ia t.is.length ic, .slice ra t.rs.length rc, .slice ba t.bs.length bc] ∧ Sat W w' (arch h' :: L) := by
  refine (c_any S t _ hin hok).mono ?_
  rintro e w' ⟨vs, h', rfl, l, q, s⟩
  obtain ⟨ia, ic, ra, rc, ba, bc, rfl, _⟩ := id q.vals
  exact ⟨ia, ic, ra, rc, ba, bc, h', rfl, l, q, s⟩
end
theorem orders_walk {W : World} {t u v : T} (ct cu cv : Array Value) (ht : TGood W ct.toList t) (hu : TGood W cu.toList u) (hv : TGood W cv.toList v) (hT : Tab (heapOf W)) :
    Calls Tryd.prog 5 #[.agg ct, .agg cu, .agg cv] W fun e w' => e = .returned (.bool true) ∧ Below W.heap.size W w' := by
  obtain ⟨hit, hot⟩ := ht
  obtain ⟨it, ict, rt, rct, yt, yct, hcs, _⟩ := id hit.vals
  obtain rfl : ct = #[(.int .i64 t.k), (.int .i64 t.n), (.string t.nm), (.slice it t.is.length ict), (.slice rt t.rs.length rct), (.slice yt t.bs.length yct)] := by rw [← Array.toArray_toList (xs := ct), hcs]; rfl
  have hit : TIn (heapOf W) t [(.int .i64 t.k), (.int .i64 t.n), (.string t.nm), (.slice it t.is.length ict), (.slice rt t.rs.length rct), (.slice yt t.bs.length yct)] := hit
  have HOt := hid hot
  have HIt := hid hit
  clear hcs hot hit
  obtain ⟨hiu, hou⟩ := hu
  obtain ⟨iu, icu, ru, rcu, yu, ycu, hcs, _⟩ := id hiu.vals
  obtain rfl : cu = #[(.int .i64 u.k), (.int .i64 u.n), (.string u.nm), (.slice iu u.is.length icu), (.slice ru u.rs.length rcu), (.slice yu u.bs.length ycu)] := by rw [← Array.toArray_toList (xs := cu), hcs]; rfl
  have hiu : TIn (heapOf W) u [(.int .i64 u.k), (.int .i64 u.n), (.string u.nm), (.slice iu u.is.length icu), (.slice ru u.rs.length rcu), (.slice yu u.bs.length ycu)] := hiu
  have HOu := hid hou
  have HIu := hid hiu
  clear hcs hou hiu
  obtain ⟨hiv, hov⟩ := hv
  obtain ⟨iv, icv, rv, rcv, yv, ycv, hcs, _⟩ := id hiv.vals
  obtain rfl : cv = #[(.int .i64 v.k), (.int .i64 v.n), (.string v.nm), (.slice iv v.is.length icv), (.slice rv v.rs.length rcv), (.slice yv v.bs.length ycv)] := by rw [← Array.toArray_toList (xs := cv), hcs]; rfl
  have hiv : TIn (heapOf W) v [(.int .i64 v.k), (.int .i64 v.n), (.string v.nm), (.slice iv v.is.length icv), (.slice rv v.rs.length rcv), (.slice yv v.bs.length ycv)] := hiv
  have HOv := hid hov
  have HIv := hid hiv
  clear hcs hov hiv
  have SS0 := (((Sat.startArch W).allocAt (k := W.heap.size) (.cells #[(.int .i64 t.k), (.int .i64 t.n), (.string t.nm), (.slice it t.is.length ict), (.slice rt t.rs.length rct), (.slice yt t.bs.length yct)] 25) rfl).allocAt (k := W.heap.size + 1) (.cells #[(.int .i64 u.k), (.int .i64 u.n), (.string u.nm), (.slice iu u.is.length icu), (.slice ru u.rs.length rcu), (.slice yu u.bs.length ycu)] 25) (by simp)).allocAt (k := W.heap.size + 2) (.cells #[(.int .i64 v.k), (.int .i64 v.n), (.string v.nm), (.slice iv v.is.length icv), (.slice rv v.rs.length rcv), (.slice yv v.bs.length ycv)] 25) (by simp)
  have SS : Hid (Sat W _ (arch (heapOf W) :: [blk (W.heap.size) (.cells #[(.int .i64 t.k), (.int .i64 t.n), (.string t.nm), (.slice it t.is.length ict), (.slice rt t.rs.length rct), (.slice yt t.bs.length yct)] 25 (0, 0)), blk (W.heap.size + 1) (.cells #[(.int .i64 u.k), (.int .i64 u.n), (.string u.nm), (.slice iu u.is.length icu), (.slice ru u.rs.length rcu), (.slice yu u.bs.length ycu)] 25 (0, 0)), blk (W.heap.size + 2) (.cells #[(.int .i64 v.k), (.int .i64 v.n), (.string v.nm), (.slice iv v.is.length icv), (.slice rv v.rs.length rcv), (.slice yv v.bs.length ycv)] 25 (0, 0))])) := hid (SS0.sel [3, 2, 1, 0])
  have SL := hid (Le.refl (heapOf W))
  have HCt : Hid (∀ (w : World) (h' : Nat → Option Obj), Le (heapOf W) h' → Sat W w (arch h' :: [blk (W.heap.size) (.cells #[(.int .i64 t.k), (.int .i64 t.n), (.string t.nm), (.slice it t.is.length ict), (.slice rt t.rs.length rct), (.slice yt t.bs.length yct)] 25 (0, 0)), blk (W.heap.size + 1) (.cells #[(.int .i64 u.k), (.int .i64 u.n), (.string u.nm), (.slice iu u.is.length icu), (.slice ru u.rs.length rcu), (.slice yu u.bs.length ycu)] 25 (0, 0)), blk (W.heap.size + 2) (.cells #[(.int .i64 v.k), (.int .i64 v.n), (.string v.nm), (.slice iv v.is.length icv), (.slice rv v.rs.length rcv), (.slice yv v.bs.length ycv)] 25 (0, 0))]) → _) := hid (fun w h' l s => c_lit s t (TIn.mono l _ HIt.out) HOt.out)
  have HCu : Hid (∀ (w : World) (h' : Nat → Option Obj), Le (heapOf W) h' → Sat W w (arch h' :: [blk (W.heap.size) (.cells #[(.int .i64 t.k), (.int .i64 t.n), (.string t.nm), (.slice it t.is.length ict), (.slice rt t.rs.length rct), (.slice yt t.bs.length yct)] 25 (0, 0)), blk (W.heap.size + 1) (.cells #[(.int .i64 u.k), (.int .i64 u.n), (.string u.nm), (.slice iu u.is.length icu), (.slice ru u.rs.length rcu), (.slice yu u.bs.length ycu)] 25 (0, 0)), blk (W.heap.size + 2) (.cells #[(.int .i64 v.k), (.int .i64 v.n), (.string v.nm), (.slice iv v.is.length icv), (.slice rv v.rs.length rcv), (.slice yv v.bs.length ycv)] 25 (0, 0))]) → _) := hid (fun w h' l s => c_lit s u (TIn.mono l _ HIu.out) HOu.out)
  have HCv : Hid (∀ (w : World) (h' : Nat → Option Obj), Le (heapOf W) h' → Sat W w (arch h' :: [blk (W.heap.size) (.cells #[(.int .i64 t.k), (.int .i64 t.n), (.string t.nm), (.slice it t.is.length ict), (.slice rt t.rs.length rct), (.slice yt t.bs.length yct)] 25 (0, 0)), blk (W.heap.size + 1) (.cells #[(.int .i64 u.k), (.int .i64 u.n), (.string u.nm), (.slice iu u.is.length icu), (.slice ru u.rs.length rcu), (.slice yu u.bs.length ycu)] 25 (0, 0)), blk (W.heap.size + 2) (.cells #[(.int .i64 v.k), (.int .i64 v.n), (.string v.nm), (.slice iv v.is.length icv), (.slice rv v.rs.length rcv), (.slice yv v.bs.length ycv)] 25 (0, 0))]) → _) := hid (fun w h' l s => c_lit s v (TIn.mono l _ HIv.out) HOv.out)
  have HF : Hid (∀ (w' : World) (h' : Nat → Option Obj), Sat W w' (arch h' :: [blk (W.heap.size) (.cells #[(.int .i64 t.k), (.int .i64 t.n), (.string t.nm), (.slice it t.is.length ict), (.slice rt t.rs.length rct), (.slice yt t.bs.length yct)] 25 (0, 0)), blk (W.heap.size + 1) (.cells #[(.int .i64 u.k), (.int .i64 u.n), (.string u.nm), (.slice iu u.is.length icu), (.slice ru u.rs.length rcu), (.slice yu u.bs.length ycu)] 25 (0, 0)), blk (W.heap.size + 2) (.cells #[(.int .i64 v.k), (.int .i64 v.n), (.string v.nm), (.slice iv v.is.length icv), (.slice rv v.rs.length rcv), (.slice yv v.bs.length ycv)] 25 (0, 0))]) → World.cell? w' ⟨W.heap.size, 0, none⟩ = some (.int .i64 t.k) ∧ World.cell? w' ⟨W.heap.size, 1, none⟩ = some (.int .i64 t.n) ∧ World.cell? w' ⟨W.heap.size, 2, none⟩ = some (.string t.nm) ∧ World.cell? w' ⟨W.heap.size, 3, none⟩ = some (.slice it t.is.length ict) ∧ World.cell? w' ⟨W.heap.size, 4, none⟩ = some (.slice rt t.rs.length rct) ∧ World.cell? w' ⟨W.heap.size, 5, none⟩ = some (.slice yt t.bs.length yct) ∧ World.cell? w' ⟨W.heap.size + 1, 0, none⟩ = some (.int .i64 u.k) ∧ World.cell? w' ⟨W.heap.size + 1, 1, none⟩ = some (.int .i64 u.n) ∧ World.cell? w' ⟨W.heap.size + 1, 2, none⟩ = some (.string u.nm) ∧ World.cell? w' ⟨W.heap.size + 1, 3, none⟩ = some (.slice iu u.is.length icu) ∧ World.cell? w' ⟨W.heap.size + 1, 4, none⟩ = some (.slice ru u.rs.length rcu) ∧ World.cell? w' ⟨W.heap.size + 1, 5, none⟩ = some (.slice yu u.bs.length ycu) ∧ World.cell? w' ⟨W.heap.size + 2, 0, none⟩ = some (.int .i64 v.k) ∧ World.cell? w' ⟨W.heap.size + 2, 1, none⟩ = some (.int .i64 v.n) ∧ World.cell? w' ⟨W.heap.size + 2, 2, none⟩ = some (.string v.nm) ∧ World.cell? w' ⟨W.heap.size + 2, 3, none⟩ = some (.slice iv v.is.length icv) ∧ World.cell? w' ⟨W.heap.size + 2, 4, none⟩ = some (.slice rv v.rs.length rcv) ∧ World.cell? w' ⟨W.heap.size + 2, 5, none⟩ = some (.slice yv v.bs.length ycv)) := hid (fun w' h' x => ⟨(x.swap.cell 0).trans rfl, (x.swap.cell 1).trans rfl, (x.swap.cell 2).trans rfl, (x.swap.cell 3).trans rfl, (x.swap.cell 4).trans rfl, (x.swap.cell 5).trans rfl, (x.rot3.cell 0).trans rfl, (x.rot3.cell 1).trans rfl, (x.rot3.cell 2).trans rfl, (x.rot3.cell 3).trans rfl, (x.rot3.cell 4).trans rfl, (x.rot3.cell 5).trans rfl, (x.rot4.cell 0).trans rfl, (x.rot4.cell 1).trans rfl, (x.rot4.cell 2).trans rfl, (x.rot4.cell 3).trans rfl, (x.rot4.cell 4).trans rfl, (x.rot4.cell 5).trans rfl⟩)
  have HT := hid hT
  clear SS0 hT
  go_enter Tryd.func5, Tryd.ntmps5
  go_wp2_with fail
  refine (HCt.out _ _ SL.out SS.out).mono ?_
  rintro e w1 ⟨i1, ic1, r1, rc1, y1, yc1, h1, rfl, l, q, s⟩
  have HR := hid (right_lit s t q HOt.out)
  replace SL := hid (SL.out.trans l)
  replace SS := hid s
  clear l q s
  go_wp2_with fail
  refine HR.out.mono ?_
  rintro e w2 ⟨v2, h2, rfl, l, e2, s⟩
  replace SL := hid (SL.out.trans l)
  replace SS := hid s
  clear l s HR
  obtain ⟨kt0, kt1, kt2, kt3, kt4, kt5, ku0, ku1, ku2, ku3, ku4, ku5, kv0, kv1, kv2, kv3, kv4, kv5⟩ := HF.out _ _ SS.out
  cases hrt : rightOf t with
  | some nk =>
    obtain ⟨n, k⟩ := nk
    rw [hrt] at e2
    have e2 : ErrIn h2 v2 [(tTerm, n)] k := e2
    obtain ⟨ty, x, rfl⟩ := e2.iface
    clear e2 hrt kt0 kt1 kt2 kt3 kt4 kt5 ku0 ku1 ku2 ku3 ku4 ku5 kv0 kv1 kv2 kv3 kv4 kv5
    go_wp2_with fail
    refine (awake_any SS.out).mono ?_
    rintro e w9 ⟨h9, rfl, l9, s9⟩
    have L9 := hid (SL.out.trans l9)
    have S9 := hid s9
    clear s9 l9 SS
    go_wp2_with fail
    go_ret
    exact ⟨rfl, S9.out.archBelow L9.out⟩
  | none =>
    rw [hrt] at e2
    have e2 : v2 = .nilIface := e2
    subst e2
    have HRt := hid hrt
    clear hrt
    go_wp2_with fail
    refine (HCu.out _ _ SL.out SS.out).mono ?_
    rintro e w1 ⟨i1, ic1, r1, rc1, y1, yc1, h1, rfl, l, q, s⟩
    have HR := hid (right_lit s u q HOu.out)
    replace SL := hid (SL.out.trans l)
    replace SS := hid s
    clear l q s kt0 kt1 kt2 kt3 kt4 kt5 ku0 ku1 ku2 ku3 ku4 ku5 kv0 kv1 kv2 kv3 kv4 kv5
    go_wp2_with fail
    refine HR.out.mono ?_
    rintro e w2 ⟨v2, h2, rfl, l, e2, s⟩
    replace SL := hid (SL.out.trans l)
    replace SS := hid s
    clear l s HR
    obtain ⟨kt0, kt1, kt2, kt3, kt4, kt5, ku0, ku1, ku2, ku3, ku4, ku5, kv0, kv1, kv2, kv3, kv4, kv5⟩ := HF.out _ _ SS.out
    cases hru : rightOf u with
    | some nk =>
      obtain ⟨n, k⟩ := nk
      rw [hru] at e2
      have e2 : ErrIn h2 v2 [(tTerm, n)] k := e2
      obtain ⟨ty, x, rfl⟩ := e2.iface
      clear e2 hru kt0 kt1 kt2 kt3 kt4 kt5 ku0 ku1 ku2 ku3 ku4 ku5 kv0 kv1 kv2 kv3 kv4 kv5
      go_wp2_with fail
      refine (awake_any SS.out).mono ?_
      rintro e w9 ⟨h9, rfl, l9, s9⟩
      have L9 := hid (SL.out.trans l9)
      have S9 := hid s9
      clear s9 l9 SS
      go_wp2_with fail
      go_ret
      exact ⟨rfl, S9.out.archBelow L9.out⟩
    | none =>
      rw [hru] at e2
      have e2 : v2 = .nilIface := e2
      subst e2
      have HRu := hid hru
      clear hru
      go_wp2_with fail
      refine (HCv.out _ _ SL.out SS.out).mono ?_
      rintro e w1 ⟨i1, ic1, r1, rc1, y1, yc1, h1, rfl, l, q, s⟩
      have HR := hid (right_lit s v q HOv.out)
      replace SL := hid (SL.out.trans l)
      replace SS := hid s
      clear l q s kt0 kt1 kt2 kt3 kt4 kt5 ku0 ku1 ku2 ku3 ku4 ku5 kv0 kv1 kv2 kv3 kv4 kv5
      go_wp2_with fail
      refine HR.out.mono ?_
      rintro e w2 ⟨v2, h2, rfl, l, e2, s⟩
      replace SL := hid (SL.out.trans l)
      replace SS := hid s
      clear l s HR
      obtain ⟨kt0, kt1, kt2, kt3, kt4, kt5, ku0, ku1, ku2, ku3, ku4, ku5, kv0, kv1, kv2, kv3, kv4, kv5⟩ := HF.out _ _ SS.out
      cases hrv : rightOf v with
      | some nk =>
        obtain ⟨n, k⟩ := nk
        rw [hrv] at e2
        have e2 : ErrIn h2 v2 [(tTerm, n)] k := e2
        obtain ⟨ty, x, rfl⟩ := e2.iface
        clear e2 hrv kt0 kt1 kt2 kt3 kt4 kt5 ku0 ku1 ku2 ku3 ku4 ku5 kv0 kv1 kv2 kv3 kv4 kv5
        go_wp2_with fail
        refine (awake_any SS.out).mono ?_
        rintro e w9 ⟨h9, rfl, l9, s9⟩
        have L9 := hid (SL.out.trans l9)
        have S9 := hid s9
        clear s9 l9 SS
        go_wp2_with fail
        go_ret
        exact ⟨rfl, S9.out.archBelow L9.out⟩
      | none =>
        rw [hrv] at e2
        have e2 : v2 = .nilIface := e2
        subst e2
        have HRv := hid hrv
        clear hrv
        clear kt0 kt1 kt2 kt3 kt4 kt5 ku0 ku1 ku2 ku3 ku4 ku5 kv0 kv1 kv2 kv3 kv4 kv5
        obtain ⟨r, HZtu⟩ : ∃ r, Hid (cmp t u = r) := ⟨_, hid rfl⟩
        obtain ⟨y, HZuv⟩ : ∃ r, Hid (cmp u v = r) := ⟨_, hid rfl⟩
        obtain ⟨z, HZtv⟩ : ∃ r, Hid (cmp t v = r) := ⟨_, hid rfl⟩
        have HZut : Hid (cmp u t = -r) := hid (by rw [cmp_neg _ t u (Nat.le_refl _) (right_fl HRt.out) (right_fl HRu.out), HZtu.out])
        have HZtt : Hid (cmp t t = 0) := hid (cmp_self _ t (Nat.le_refl _) (right_fl HRt.out))
        have HTRI : Hid (Tri r y z) := hid (by rw [← HZtu.out, ← HZuv.out, ← HZtv.out]; exact cmp_tri _ t u v (Nat.le_refl _) (right_fl HRt.out) (right_fl HRu.out) (right_fl HRv.out))
        have HR3 : Hid (r = -1 ∨ r = 0 ∨ r = 1) := hid (by rw [← HZtu.out]; exact cmp_three t u)
        go_upto_region 3 with fail
        go_cut [7] from 30 to 34 (fun sv wd => sv = .int .i64 r ∧ ∃ h', Hid (Le (heapOf W) h') ∧ Hid (Sat W wd (arch h' :: [blk (W.heap.size) (.cells #[(.int .i64 t.k), (.int .i64 t.n), (.string t.nm), (.slice it t.is.length ict), (.slice rt t.rs.length rct), (.slice yt t.bs.length yct)] 25 (0, 0)), blk (W.heap.size + 1) (.cells #[(.int .i64 u.k), (.int .i64 u.n), (.string u.nm), (.slice iu u.is.length icu), (.slice ru u.rs.length rcu), (.slice yu u.bs.length ycu)] 25 (0, 0)), blk (W.heap.size + 2) (.cells #[(.int .i64 v.k), (.int .i64 v.n), (.string v.nm), (.slice iv v.is.length icv), (.slice rv v.rs.length rcv), (.slice yv v.bs.length ycv)] 25 (0, 0))])))
        case first =>
          replace SS := hid SS.out.drew
          go_region_held3 (fun w' => World.cell? w' ⟨W.heap.size, 0, none⟩ = some (.int .i64 t.k) ∧ World.cell? w' ⟨W.heap.size, 1, none⟩ = some (.int .i64 t.n) ∧ World.cell? w' ⟨W.heap.size, 2, none⟩ = some (.string t.nm) ∧ World.cell? w' ⟨W.heap.size, 3, none⟩ = some (.slice it t.is.length ict) ∧ World.cell? w' ⟨W.heap.size, 4, none⟩ = some (.slice rt t.rs.length rct) ∧ World.cell? w' ⟨W.heap.size, 5, none⟩ = some (.slice yt t.bs.length yct) ∧ World.cell? w' ⟨W.heap.size + 1, 0, none⟩ = some (.int .i64 u.k) ∧ World.cell? w' ⟨W.heap.size + 1, 1, none⟩ = some (.int .i64 u.n) ∧ World.cell? w' ⟨W.heap.size + 1, 2, none⟩ = some (.string u.nm) ∧ World.cell? w' ⟨W.heap.size + 1, 3, none⟩ = some (.slice iu u.is.length icu) ∧ World.cell? w' ⟨W.heap.size + 1, 4, none⟩ = some (.slice ru u.rs.length rcu) ∧ World.cell? w' ⟨W.heap.size + 1, 5, none⟩ = some (.slice yu u.bs.length ycu) ∧ World.cell? w' ⟨W.heap.size + 2, 0, none⟩ = some (.int .i64 v.k) ∧ World.cell? w' ⟨W.heap.size + 2, 1, none⟩ = some (.int .i64 v.n) ∧ World.cell? w' ⟨W.heap.size + 2, 2, none⟩ = some (.string v.nm) ∧ World.cell? w' ⟨W.heap.size + 2, 3, none⟩ = some (.slice iv v.is.length icv) ∧ World.cell? w' ⟨W.heap.size + 2, 4, none⟩ = some (.slice rv v.rs.length rcv) ∧ World.cell? w' ⟨W.heap.size + 2, 5, none⟩ = some (.slice yv v.bs.length ycv)) (exact HF.out _ _ SS.out) (first
            | (fail_if_success have tok := Qt1.out
               go_at_call 16
               with_reducible refine (HCt.out _ _ SL.out SS.out).mono ?_
               rintro e wt1 ⟨itt1, ictt1, rtt1, rctt1, ytt1, yctt1, ht1, rfl, l, q, s⟩
               try replace Qt2 := hid (TIn.mono l _ Qt2.out)
               try replace Qu1 := hid (TIn.mono l _ Qu1.out)
               try replace Qv1 := hid (TIn.mono l _ Qv1.out)
               have Qt1 := hid q
               replace SL := hid (SL.out.trans l)
               replace SS := hid s
               clear l q s)
            | (fail_if_success have tok := Qu1.out
               go_at_call 16
               with_reducible refine (HCu.out _ _ SL.out SS.out).mono ?_
               rintro e wu2 ⟨iuu1, icuu1, ruu1, rcuu1, yuu1, ycuu1, hu2, rfl, l, q, s⟩
               try replace Qt1 := hid (TIn.mono l _ Qt1.out)
               try replace Qt2 := hid (TIn.mono l _ Qt2.out)
               try replace Qv1 := hid (TIn.mono l _ Qv1.out)
               have Qu1 := hid q
               replace SL := hid (SL.out.trans l)
               replace SS := hid s
               clear l q s)
            | (go_at_call 21
               with_reducible refine (cmp_lit SS.out t u Qt1.out Qu1.out HOt.out HOu.out HRt.out HRu.out HZtu.out).mono ?_
               rintro e wc ⟨rfl, s⟩
               replace SS := hid s
               clear s Qt1 Qu1))
          all_goals go_wp2_with fail
          all_goals go_meet
          all_goals exact ⟨rfl, _, SL, SS⟩
        case rest =>
          clear SL SS
          obtain ⟨rfl, h3, SL, SS⟩ := hcut
          go_upto_region 4 with fail
          go_cut [8] from 35 to 39 (fun sv wd => sv = .int .i64 y ∧ ∃ h', Hid (Le (heapOf W) h') ∧ Hid (Sat W wd (arch h' :: [blk (W.heap.size) (.cells #[(.int .i64 t.k), (.int .i64 t.n), (.string t.nm), (.slice it t.is.length ict), (.slice rt t.rs.length rct), (.slice yt t.bs.length yct)] 25 (0, 0)), blk (W.heap.size + 1) (.cells #[(.int .i64 u.k), (.int .i64 u.n), (.string u.nm), (.slice iu u.is.length icu), (.slice ru u.rs.length rcu), (.slice yu u.bs.length ycu)] 25 (0, 0)), blk (W.heap.size + 2) (.cells #[(.int .i64 v.k), (.int .i64 v.n), (.string v.nm), (.slice iv v.is.length icv), (.slice rv v.rs.length rcv), (.slice yv v.bs.length ycv)] 25 (0, 0))])))
          case first =>
            replace SS := hid SS.out.drew
            go_region_held3 (fun w' => World.cell? w' ⟨W.heap.size, 0, none⟩ = some (.int .i64 t.k) ∧ World.cell? w' ⟨W.heap.size, 1, none⟩ = some (.int .i64 t.n) ∧ World.cell? w' ⟨W.heap.size, 2, none⟩ = some (.string t.nm) ∧ World.cell? w' ⟨W.heap.size, 3, none⟩ = some (.slice it t.is.length ict) ∧ World.cell? w' ⟨W.heap.size, 4, none⟩ = some (.slice rt t.rs.length rct) ∧ World.cell? w' ⟨W.heap.size, 5, none⟩ = some (.slice yt t.bs.length yct) ∧ World.cell? w' ⟨W.heap.size + 1, 0, none⟩ = some (.int .i64 u.k) ∧ World.cell? w' ⟨W.heap.size + 1, 1, none⟩ = some (.int .i64 u.n) ∧ World.cell? w' ⟨W.heap.size + 1, 2, none⟩ = some (.string u.nm) ∧ World.cell? w' ⟨W.heap.size + 1, 3, none⟩ = some (.slice iu u.is.length icu) ∧ World.cell? w' ⟨W.heap.size + 1, 4, none⟩ = some (.slice ru u.rs.length rcu) ∧ World.cell? w' ⟨W.heap.size + 1, 5, none⟩ = some (.slice yu u.bs.length ycu) ∧ World.cell? w' ⟨W.heap.size + 2, 0, none⟩ = some (.int .i64 v.k) ∧ World.cell? w' ⟨W.heap.size + 2, 1, none⟩ = some (.int .i64 v.n) ∧ World.cell? w' ⟨W.heap.size + 2, 2, none⟩ = some (.string v.nm) ∧ World.cell? w' ⟨W.heap.size + 2, 3, none⟩ = some (.slice iv v.is.length icv) ∧ World.cell? w' ⟨W.heap.size + 2, 4, none⟩ = some (.slice rv v.rs.length rcv) ∧ World.cell? w' ⟨W.heap.size + 2, 5, none⟩ = some (.slice yv v.bs.length ycv)) (exact HF.out _ _ SS.out) (first
              | (fail_if_success have tok := Qu1.out
                 go_at_call 16
                 with_reducible refine (HCu.out _ _ SL.out SS.out).mono ?_
                 rintro e wu3 ⟨iuu1, icuu1, ruu1, rcuu1, yuu1, ycuu1, hu3, rfl, l, q, s⟩
                 try replace Qt1 := hid (TIn.mono l _ Qt1.out)
                 try replace Qt2 := hid (TIn.mono l _ Qt2.out)
                 try replace Qv1 := hid (TIn.mono l _ Qv1.out)
                 have Qu1 := hid q
                 replace SL := hid (SL.out.trans l)
                 replace SS := hid s
                 clear l q s)
              | (fail_if_success have tok := Qv1.out
                 go_at_call 16
                 with_reducible refine (HCv.out _ _ SL.out SS.out).mono ?_
                 rintro e wv4 ⟨ivv1, icvv1, rvv1, rcvv1, yvv1, ycvv1, hv4, rfl, l, q, s⟩
                 try replace Qt1 := hid (TIn.mono l _ Qt1.out)
                 try replace Qt2 := hid (TIn.mono l _ Qt2.out)
                 try replace Qu1 := hid (TIn.mono l _ Qu1.out)
                 have Qv1 := hid q
                 replace SL := hid (SL.out.trans l)
                 replace SS := hid s
                 clear l q s)
              | (go_at_call 21
                 with_reducible refine (cmp_lit SS.out u v Qu1.out Qv1.out HOu.out HOv.out HRu.out HRv.out HZuv.out).mono ?_
                 rintro e wc ⟨rfl, s⟩
                 replace SS := hid s
                 clear s Qu1 Qv1))
            all_goals go_wp2_with fail
            all_goals go_meet
            all_goals exact ⟨rfl, _, SL, SS⟩
          case rest =>
            clear SL SS
            obtain ⟨rfl, h3, SL, SS⟩ := hcut
            rcases HR3.out with rfl | rfl | rfl
            · clear HR3
              replace HZut : Hid (cmp u t = 1) := hid (by have := HZut.out; omega)
              have n1 : IntKind.i64.wrap (-(1)) = -1 := by decide
              have n2 : wrap64 (-(1)) = -1 := by decide +kernel
              have n3 : ((-1 : Int) != -1) = false := by decide
              go_upto_region 5 with fail
              go_cut [55] from 40 to 54 (fun sv wd => sv = .bool false ∧ ∃ h', Hid (Le (heapOf W) h') ∧ Hid (Sat W wd (arch h' :: [blk (W.heap.size) (.cells #[(.int .i64 t.k), (.int .i64 t.n), (.string t.nm), (.slice it t.is.length ict), (.slice rt t.rs.length rct), (.slice yt t.bs.length yct)] 25 (0, 0)), blk (W.heap.size + 1) (.cells #[(.int .i64 u.k), (.int .i64 u.n), (.string u.nm), (.slice iu u.is.length icu), (.slice ru u.rs.length rcu), (.slice yu u.bs.length ycu)] 25 (0, 0)), blk (W.heap.size + 2) (.cells #[(.int .i64 v.k), (.int .i64 v.n), (.string v.nm), (.slice iv v.is.length icv), (.slice rv v.rs.length rcv), (.slice yv v.bs.length ycv)] 25 (0, 0))])))
              case first =>
                replace SS := hid SS.out.drew
                go_region_held3 (fun w' => World.cell? w' ⟨W.heap.size, 0, none⟩ = some (.int .i64 t.k) ∧ World.cell? w' ⟨W.heap.size, 1, none⟩ = some (.int .i64 t.n) ∧ World.cell? w' ⟨W.heap.size, 2, none⟩ = some (.string t.nm) ∧ World.cell? w' ⟨W.heap.size, 3, none⟩ = some (.slice it t.is.length ict) ∧ World.cell? w' ⟨W.heap.size, 4, none⟩ = some (.slice rt t.rs.length rct) ∧ World.cell? w' ⟨W.heap.size, 5, none⟩ = some (.slice yt t.bs.length yct) ∧ World.cell? w' ⟨W.heap.size + 1, 0, none⟩ = some (.int .i64 u.k) ∧ World.cell? w' ⟨W.heap.size + 1, 1, none⟩ = some (.int .i64 u.n) ∧ World.cell? w' ⟨W.heap.size + 1, 2, none⟩ = some (.string u.nm) ∧ World.cell? w' ⟨W.heap.size + 1, 3, none⟩ = some (.slice iu u.is.length icu) ∧ World.cell? w' ⟨W.heap.size + 1, 4, none⟩ = some (.slice ru u.rs.length rcu) ∧ World.cell? w' ⟨W.heap.size + 1, 5, none⟩ = some (.slice yu u.bs.length ycu) ∧ World.cell? w' ⟨W.heap.size + 2, 0, none⟩ = some (.int .i64 v.k) ∧ World.cell? w' ⟨W.heap.size + 2, 1, none⟩ = some (.int .i64 v.n) ∧ World.cell? w' ⟨W.heap.size + 2, 2, none⟩ = some (.string v.nm) ∧ World.cell? w' ⟨W.heap.size + 2, 3, none⟩ = some (.slice iv v.is.length icv) ∧ World.cell? w' ⟨W.heap.size + 2, 4, none⟩ = some (.slice rv v.rs.length rcv) ∧ World.cell? w' ⟨W.heap.size + 2, 5, none⟩ = some (.slice yv v.bs.length ycv)) (exact HF.out _ _ SS.out) (first
                  | (go_at_call 21
                     with_reducible refine (cmp_lit SS.out u t Qu1.out Qt1.out HOu.out HOt.out HRu.out HRt.out HZut.out).mono ?_
                     rintro e wc ⟨rfl, s⟩
                     replace SS := hid s
                     clear s Qu1 Qt1
                     have MK : True := trivial)
                  | (go_at_call 21
                     with_reducible refine (cmp_lit SS.out t t Qt1.out Qt2.out HOt.out HOt.out HRt.out HRt.out HZtt.out).mono ?_
                     rintro e wc ⟨rfl, s⟩
                     replace SS := hid s
                     clear s Qt1 Qt2)
                  | (go_at_call 21
                     with_reducible refine (cmp_lit SS.out t t Qt2.out Qt1.out HOt.out HOt.out HRt.out HRt.out HZtt.out).mono ?_
                     rintro e wc ⟨rfl, s⟩
                     replace SS := hid s
                     clear s Qt2 Qt1)
                  | (fail_if_success have tok := MK
                     fail_if_success have tok := Qu1.out
                     go_at_call 16
                     with_reducible refine (HCu.out _ _ SL.out SS.out).mono ?_
                     rintro e wu5 ⟨iuu1, icuu1, ruu1, rcuu1, yuu1, ycuu1, hu5, rfl, l, q, s⟩
                     try replace Qt1 := hid (TIn.mono l _ Qt1.out)
                     try replace Qt2 := hid (TIn.mono l _ Qt2.out)
                     try replace Qv1 := hid (TIn.mono l _ Qv1.out)
                     have Qu1 := hid q
                     replace SL := hid (SL.out.trans l)
                     replace SS := hid s
                     clear l q s)
                  | (have tok := Qt1.out
                     clear tok
                     go_at_call 16
                     with_reducible refine (HCt.out _ _ SL.out SS.out).mono ?_
                     rintro e wt6 ⟨itt2, ictt2, rtt2, rctt2, ytt2, yctt2, ht6, rfl, l, q, s⟩
                     try replace Qt1 := hid (TIn.mono l _ Qt1.out)
                     try replace Qu1 := hid (TIn.mono l _ Qu1.out)
                     try replace Qv1 := hid (TIn.mono l _ Qv1.out)
                     have Qt2 := hid q
                     replace SL := hid (SL.out.trans l)
                     replace SS := hid s
                     clear l q s)
                  | (fail_if_success have tok := Qt1.out
                     go_at_call 16
                     with_reducible refine (HCt.out _ _ SL.out SS.out).mono ?_
                     rintro e wt7 ⟨itt1, ictt1, rtt1, rctt1, ytt1, yctt1, ht7, rfl, l, q, s⟩
                     try replace Qt2 := hid (TIn.mono l _ Qt2.out)
                     try replace Qu1 := hid (TIn.mono l _ Qu1.out)
                     try replace Qv1 := hid (TIn.mono l _ Qv1.out)
                     have Qt1 := hid q
                     replace SL := hid (SL.out.trans l)
                     replace SS := hid s
                     clear l q s))
                all_goals go_wp2_with fail
                all_goals go_meet
                all_goals exact ⟨rfl, _, SL, SS⟩
              case rest =>
                clear SL SS
                obtain ⟨rfl, h3, SL, SS⟩ := hcut
                by_cases hy : y ≤ 0
                · have hyd : decide (y ≤ 0) = true := by simpa using hy
                  have hz : z < 0 := HTRI.out.lz (by decide) hy
                  have hz1 : ¬ 0 < z := by omega
                  have hz1d : decide (0 < z) = false := by simpa using hz1
                  have hz2 : ¬ 0 ≤ z := by omega
                  have hz2d : decide (0 ≤ z) = false := by simpa using hz2
                  clear hz
                  go_upto_region 7 with fail
                  go_cut [85] from 56 to 84 (fun sv wd => sv = .bool false ∧ ∃ h', Hid (Le (heapOf W) h') ∧ Hid (Sat W wd (arch h' :: [blk (W.heap.size) (.cells #[(.int .i64 t.k), (.int .i64 t.n), (.string t.nm), (.slice it t.is.length ict), (.slice rt t.rs.length rct), (.slice yt t.bs.length yct)] 25 (0, 0)), blk (W.heap.size + 1) (.cells #[(.int .i64 u.k), (.int .i64 u.n), (.string u.nm), (.slice iu u.is.length icu), (.slice ru u.rs.length rcu), (.slice yu u.bs.length ycu)] 25 (0, 0)), blk (W.heap.size + 2) (.cells #[(.int .i64 v.k), (.int .i64 v.n), (.string v.nm), (.slice iv v.is.length icv), (.slice rv v.rs.length rcv), (.slice yv v.bs.length ycv)] 25 (0, 0))])))
                  case first =>
                    replace SS := hid SS.out.drew
                    go_region_held3 (fun w' => World.cell? w' ⟨W.heap.size, 0, none⟩ = some (.int .i64 t.k) ∧ World.cell? w' ⟨W.heap.size, 1, none⟩ = some (.int .i64 t.n) ∧ World.cell? w' ⟨W.heap.size, 2, none⟩ = some (.string t.nm) ∧ World.cell? w' ⟨W.heap.size, 3, none⟩ = some (.slice it t.is.length ict) ∧ World.cell? w' ⟨W.heap.size, 4, none⟩ = some (.slice rt t.rs.length rct) ∧ World.cell? w' ⟨W.heap.size, 5, none⟩ = some (.slice yt t.bs.length yct) ∧ World.cell? w' ⟨W.heap.size + 1, 0, none⟩ = some (.int .i64 u.k) ∧ World.cell? w' ⟨W.heap.size + 1, 1, none⟩ = some (.int .i64 u.n) ∧ World.cell? w' ⟨W.heap.size + 1, 2, none⟩ = some (.string u.nm) ∧ World.cell? w' ⟨W.heap.size + 1, 3, none⟩ = some (.slice iu u.is.length icu) ∧ World.cell? w' ⟨W.heap.size + 1, 4, none⟩ = some (.slice ru u.rs.length rcu) ∧ World.cell? w' ⟨W.heap.size + 1, 5, none⟩ = some (.slice yu u.bs.length ycu) ∧ World.cell? w' ⟨W.heap.size + 2, 0, none⟩ = some (.int .i64 v.k) ∧ World.cell? w' ⟨W.heap.size + 2, 1, none⟩ = some (.int .i64 v.n) ∧ World.cell? w' ⟨W.heap.size + 2, 2, none⟩ = some (.string v.nm) ∧ World.cell? w' ⟨W.heap.size + 2, 3, none⟩ = some (.slice iv v.is.length icv) ∧ World.cell? w' ⟨W.heap.size + 2, 4, none⟩ = some (.slice rv v.rs.length rcv) ∧ World.cell? w' ⟨W.heap.size + 2, 5, none⟩ = some (.slice yv v.bs.length ycv)) (exact HF.out _ _ SS.out) (first
                      | (go_at_call 21
                         with_reducible refine (cmp_lit SS.out t v Qt1.out Qv1.out HOt.out HOv.out HRt.out HRv.out HZtv.out).mono ?_
                         rintro e wc ⟨rfl, s⟩
                         replace SS := hid s
                         clear s Qt1 Qv1)
                      | (fail_if_success have tok := Qt1.out
                         go_at_call 16
                         with_reducible refine (HCt.out _ _ SL.out SS.out).mono ?_
                         rintro e wt8 ⟨itt1, ictt1, rtt1, rctt1, ytt1, yctt1, ht8, rfl, l, q, s⟩
                         try replace Qt2 := hid (TIn.mono l _ Qt2.out)
                         try replace Qu1 := hid (TIn.mono l _ Qu1.out)
                         try replace Qv1 := hid (TIn.mono l _ Qv1.out)
                         have Qt1 := hid q
                         replace SL := hid (SL.out.trans l)
                         replace SS := hid s
                         clear l q s)
                      | (fail_if_success have tok := Qv1.out
                         go_at_call 16
                         with_reducible refine (HCv.out _ _ SL.out SS.out).mono ?_
                         rintro e wv9 ⟨ivv1, icvv1, rvv1, rcvv1, yvv1, ycvv1, hv9, rfl, l, q, s⟩
                         try replace Qt1 := hid (TIn.mono l _ Qt1.out)
                         try replace Qt2 := hid (TIn.mono l _ Qt2.out)
                         try replace Qu1 := hid (TIn.mono l _ Qu1.out)
                         have Qv1 := hid q
                         replace SL := hid (SL.out.trans l)
                         replace SS := hid s
                         clear l q s))
                    all_goals go_wp2_with fail
                    all_goals go_meet
                    all_goals exact ⟨rfl, _, SL, SS⟩
                  case rest =>
                    clear SL SS
                    obtain ⟨rfl, h3, SL, SS⟩ := hcut
                    obtain ⟨kt0, kt1, kt2, kt3, kt4, kt5, ku0, ku1, ku2, ku3, ku4, ku5, kv0, kv1, kv2, kv3, kv4, kv5⟩ := HF.out _ _ SS.out
                    go_wp2_with fail
                    refine (HCt.out _ _ SL.out SS.out).mono ?_
                    rintro e w1 ⟨i1, ic1, r1, rc1, y1, yc1, h1, rfl, l, q, s⟩
                    have HW := hid (write_lit (HT.out.mono (SL.out.trans l)) s t q HOt.out)
                    replace SL := hid (SL.out.trans l)
                    replace SS := hid s
                    clear l q s kt0 kt1 kt2 kt3 kt4 kt5 ku0 ku1 ku2 ku3 ku4 ku5 kv0 kv1 kv2 kv3 kv4 kv5
                    go_wp2_with fail
                    refine HW.out.mono ?_
                    rintro e w2 ⟨sv, v2, h2, rfl, l, e2, s⟩
                    unfold WOf at e2
                    rw [HRt.out] at e2
                    obtain ⟨rfl, qt, rfl, hqt⟩ := e2
                    have HQt := hid hqt
                    replace SL := hid (SL.out.trans l)
                    replace SS := hid s
                    clear l s HW hqt
                    obtain ⟨kt0, kt1, kt2, kt3, kt4, kt5, ku0, ku1, ku2, ku3, ku4, ku5, kv0, kv1, kv2, kv3, kv4, kv5⟩ := HF.out _ _ SS.out
                    go_wp2_with fail
                    refine (HCu.out _ _ SL.out SS.out).mono ?_
                    rintro e w1 ⟨i1, ic1, r1, rc1, y1, yc1, h1, rfl, l, q, s⟩
                    have HW := hid (write_lit (HT.out.mono (SL.out.trans l)) s u q HOu.out)
                    replace SL := hid (SL.out.trans l)
                    replace SS := hid s
                    clear l q s kt0 kt1 kt2 kt3 kt4 kt5 ku0 ku1 ku2 ku3 ku4 ku5 kv0 kv1 kv2 kv3 kv4 kv5
                    go_wp2_with fail
                    refine HW.out.mono ?_
                    rintro e w2 ⟨sv, v2, h2, rfl, l, e2, s⟩
                    unfold WOf at e2
                    rw [HRu.out] at e2
                    obtain ⟨rfl, qu, rfl, hqu⟩ := e2
                    have HQu := hid hqu
                    replace SL := hid (SL.out.trans l)
                    replace SS := hid s
                    clear l s HW hqu
                    have hst : (qt.toList == qu.toList) = false := by rw [same_txt HQt.out HQu.out HOt.out HOu.out HRt.out HRu.out, HZtu.out]; rfl
                    go_wp2_with fail
                    refine (awake_any SS.out).mono ?_
                    rintro e w9 ⟨h9, rfl, l9, s9⟩
                    have L9 := hid (SL.out.trans l9)
                    have S9 := hid s9
                    clear s9 l9 SS
                    go_wp2_with fail
                    go_ret
                    exact ⟨rfl, S9.out.archBelow L9.out⟩
                · have hyd : decide (y ≤ 0) = false := by simpa using hy
                  go_upto_region 7 with fail
                  go_cut [85] from 56 to 84 (fun sv wd => sv = .bool false ∧ ∃ h', Hid (Le (heapOf W) h') ∧ Hid (Sat W wd (arch h' :: [blk (W.heap.size) (.cells #[(.int .i64 t.k), (.int .i64 t.n), (.string t.nm), (.slice it t.is.length ict), (.slice rt t.rs.length rct), (.slice yt t.bs.length yct)] 25 (0, 0)), blk (W.heap.size + 1) (.cells #[(.int .i64 u.k), (.int .i64 u.n), (.string u.nm), (.slice iu u.is.length icu), (.slice ru u.rs.length rcu), (.slice yu u.bs.length ycu)] 25 (0, 0)), blk (W.heap.size + 2) (.cells #[(.int .i64 v.k), (.int .i64 v.n), (.string v.nm), (.slice iv v.is.length icv), (.slice rv v.rs.length rcv), (.slice yv v.bs.length ycv)] 25 (0, 0))])))
                  case first =>
                    go_quiet (fail)
                    all_goals go_wp2_with fail
                    all_goals go_meet
                    all_goals exact ⟨rfl, _, SL, hid (SS.out.drewN _)⟩
                  case rest =>
                    clear SL SS
                    obtain ⟨rfl, h3, SL, SS⟩ := hcut
                    obtain ⟨kt0, kt1, kt2, kt3, kt4, kt5, ku0, ku1, ku2, ku3, ku4, ku5, kv0, kv1, kv2, kv3, kv4, kv5⟩ := HF.out _ _ SS.out
                    go_wp2_with fail
                    refine (HCt.out _ _ SL.out SS.out).mono ?_
                    rintro e w1 ⟨i1, ic1, r1, rc1, y1, yc1, h1, rfl, l, q, s⟩
                    have HW := hid (write_lit (HT.out.mono (SL.out.trans l)) s t q HOt.out)
                    replace SL := hid (SL.out.trans l)
                    replace SS := hid s
                    clear l q s kt0 kt1 kt2 kt3 kt4 kt5 ku0 ku1 ku2 ku3 ku4 ku5 kv0 kv1 kv2 kv3 kv4 kv5
                    go_wp2_with fail
                    refine HW.out.mono ?_
                    rintro e w2 ⟨sv, v2, h2, rfl, l, e2, s⟩
                    unfold WOf at e2
                    rw [HRt.out] at e2
                    obtain ⟨rfl, qt, rfl, hqt⟩ := e2
                    have HQt := hid hqt
                    replace SL := hid (SL.out.trans l)
                    replace SS := hid s
                    clear l s HW hqt
                    obtain ⟨kt0, kt1, kt2, kt3, kt4, kt5, ku0, ku1, ku2, ku3, ku4, ku5, kv0, kv1, kv2, kv3, kv4, kv5⟩ := HF.out _ _ SS.out
                    go_wp2_with fail
                    refine (HCu.out _ _ SL.out SS.out).mono ?_
                    rintro e w1 ⟨i1, ic1, r1, rc1, y1, yc1, h1, rfl, l, q, s⟩
                    have HW := hid (write_lit (HT.out.mono (SL.out.trans l)) s u q HOu.out)
                    replace SL := hid (SL.out.trans l)
                    replace SS := hid s
                    clear l q s kt0 kt1 kt2 kt3 kt4 kt5 ku0 ku1 ku2 ku3 ku4 ku5 kv0 kv1 kv2 kv3 kv4 kv5
                    go_wp2_with fail
                    refine HW.out.mono ?_
                    rintro e w2 ⟨sv, v2, h2, rfl, l, e2, s⟩
                    unfold WOf at e2
                    rw [HRu.out] at e2
                    obtain ⟨rfl, qu, rfl, hqu⟩ := e2
                    have HQu := hid hqu
                    replace SL := hid (SL.out.trans l)
                    replace SS := hid s
                    clear l s HW hqu
                    have hst : (qt.toList == qu.toList) = false := by rw [same_txt HQt.out HQu.out HOt.out HOu.out HRt.out HRu.out, HZtu.out]; rfl
                    go_wp2_with fail
                    refine (awake_any SS.out).mono ?_
                    rintro e w9 ⟨h9, rfl, l9, s9⟩
                    have L9 := hid (SL.out.trans l9)
                    have S9 := hid s9
                    clear s9 l9 SS
                    go_wp2_with fail
                    go_ret
                    exact ⟨rfl, S9.out.archBelow L9.out⟩
            · clear HR3
              replace HZut : Hid (cmp u t = 0) := hid (by have := HZut.out; omega)
              have n1 : IntKind.i64.wrap (-(0)) = 0 := by decide
              have n2 : wrap64 (-(0)) = 0 := by decide +kernel
              have n3 : ((0 : Int) != 0) = false := by decide
              have n4 : IntKind.i64.wrap 0 = 0 := by decide +kernel
              have n5 : wrap64 0 = 0 := by decide +kernel
              have n6 : decide ((0 : Int) < 0) = false := by decide
              have n7 : ¬ (0 : Int) < 0 := by decide
              go_upto_region 5 with fail
              go_cut [55] from 40 to 54 (fun sv wd => sv = .bool false ∧ ∃ h', Hid (Le (heapOf W) h') ∧ Hid (Sat W wd (arch h' :: [blk (W.heap.size) (.cells #[(.int .i64 t.k), (.int .i64 t.n), (.string t.nm), (.slice it t.is.length ict), (.slice rt t.rs.length rct), (.slice yt t.bs.length yct)] 25 (0, 0)), blk (W.heap.size + 1) (.cells #[(.int .i64 u.k), (.int .i64 u.n), (.string u.nm), (.slice iu u.is.length icu), (.slice ru u.rs.length rcu), (.slice yu u.bs.length ycu)] 25 (0, 0)), blk (W.heap.size + 2) (.cells #[(.int .i64 v.k), (.int .i64 v.n), (.string v.nm), (.slice iv v.is.length icv), (.slice rv v.rs.length rcv), (.slice yv v.bs.length ycv)] 25 (0, 0))])))
              case first =>
                replace SS := hid SS.out.drew
                go_region_held3 (fun w' => World.cell? w' ⟨W.heap.size, 0, none⟩ = some (.int .i64 t.k) ∧ World.cell? w' ⟨W.heap.size, 1, none⟩ = some (.int .i64 t.n) ∧ World.cell? w' ⟨W.heap.size, 2, none⟩ = some (.string t.nm) ∧ World.cell? w' ⟨W.heap.size, 3, none⟩ = some (.slice it t.is.length ict) ∧ World.cell? w' ⟨W.heap.size, 4, none⟩ = some (.slice rt t.rs.length rct) ∧ World.cell? w' ⟨W.heap.size, 5, none⟩ = some (.slice yt t.bs.length yct) ∧ World.cell? w' ⟨W.heap.size + 1, 0, none⟩ = some (.int .i64 u.k) ∧ World.cell? w' ⟨W.heap.size + 1, 1, none⟩ = some (.int .i64 u.n) ∧ World.cell? w' ⟨W.heap.size + 1, 2, none⟩ = some (.string u.nm) ∧ World.cell? w' ⟨W.heap.size + 1, 3, none⟩ = some (.slice iu u.is.length icu) ∧ World.cell? w' ⟨W.heap.size + 1, 4, none⟩ = some (.slice ru u.rs.length rcu) ∧ World.cell? w' ⟨W.heap.size + 1, 5, none⟩ = some (.slice yu u.bs.length ycu) ∧ World.cell? w' ⟨W.heap.size + 2, 0, none⟩ = some (.int .i64 v.k) ∧ World.cell? w' ⟨W.heap.size + 2, 1, none⟩ = some (.int .i64 v.n) ∧ World.cell? w' ⟨W.heap.size + 2, 2, none⟩ = some (.string v.nm) ∧ World.cell? w' ⟨W.heap.size + 2, 3, none⟩ = some (.slice iv v.is.length icv) ∧ World.cell? w' ⟨W.heap.size + 2, 4, none⟩ = some (.slice rv v.rs.length rcv) ∧ World.cell? w' ⟨W.heap.size + 2, 5, none⟩ = some (.slice yv v.bs.length ycv)) (exact HF.out _ _ SS.out) (first
                  | (go_at_call 21
                     with_reducible refine (cmp_lit SS.out u t Qu1.out Qt1.out HOu.out HOt.out HRu.out HRt.out HZut.out).mono ?_
                     rintro e wc ⟨rfl, s⟩
                     replace SS := hid s
                     clear s Qu1 Qt1
                     have MK : True := trivial)
                  | (go_at_call 21
                     with_reducible refine (cmp_lit SS.out t t Qt1.out Qt2.out HOt.out HOt.out HRt.out HRt.out HZtt.out).mono ?_
                     rintro e wc ⟨rfl, s⟩
                     replace SS := hid s
                     clear s Qt1 Qt2)
                  | (go_at_call 21
                     with_reducible refine (cmp_lit SS.out t t Qt2.out Qt1.out HOt.out HOt.out HRt.out HRt.out HZtt.out).mono ?_
                     rintro e wc ⟨rfl, s⟩
                     replace SS := hid s
                     clear s Qt2 Qt1)
                  | (fail_if_success have tok := MK
                     fail_if_success have tok := Qu1.out
                     go_at_call 16
                     with_reducible refine (HCu.out _ _ SL.out SS.out).mono ?_
                     rintro e wu5 ⟨iuu1, icuu1, ruu1, rcuu1, yuu1, ycuu1, hu5, rfl, l, q, s⟩
                     try replace Qt1 := hid (TIn.mono l _ Qt1.out)
                     try replace Qt2 := hid (TIn.mono l _ Qt2.out)
                     try replace Qv1 := hid (TIn.mono l _ Qv1.out)
                     have Qu1 := hid q
                     replace SL := hid (SL.out.trans l)
                     replace SS := hid s
                     clear l q s)
                  | (have tok := Qt1.out
                     clear tok
                     go_at_call 16
                     with_reducible refine (HCt.out _ _ SL.out SS.out).mono ?_
                     rintro e wt6 ⟨itt2, ictt2, rtt2, rctt2, ytt2, yctt2, ht6, rfl, l, q, s⟩
                     try replace Qt1 := hid (TIn.mono l _ Qt1.out)
                     try replace Qu1 := hid (TIn.mono l _ Qu1.out)
                     try replace Qv1 := hid (TIn.mono l _ Qv1.out)
                     have Qt2 := hid q
                     replace SL := hid (SL.out.trans l)
                     replace SS := hid s
                     clear l q s)
                  | (fail_if_success have tok := Qt1.out
                     go_at_call 16
                     with_reducible refine (HCt.out _ _ SL.out SS.out).mono ?_
                     rintro e wt7 ⟨itt1, ictt1, rtt1, rctt1, ytt1, yctt1, ht7, rfl, l, q, s⟩
                     try replace Qt2 := hid (TIn.mono l _ Qt2.out)
                     try replace Qu1 := hid (TIn.mono l _ Qu1.out)
                     try replace Qv1 := hid (TIn.mono l _ Qv1.out)
                     have Qt1 := hid q
                     replace SL := hid (SL.out.trans l)
                     replace SS := hid s
                     clear l q s))
                all_goals go_wp2_with fail
                all_goals go_meet
                all_goals exact ⟨rfl, _, SL, SS⟩
              case rest =>
                clear SL SS
                obtain ⟨rfl, h3, SL, SS⟩ := hcut
                by_cases hy : y ≤ 0
                · have hyd : decide (y ≤ 0) = true := by simpa using hy
                  have hz : z ≤ 0 := HTRI.out.le (by decide) hy
                  have hz1 : ¬ 0 < z := by omega
                  have hz1d : decide (0 < z) = false := by simpa using hz1
                  clear hz
                  go_upto_region 7 with fail
                  go_cut [85] from 56 to 84 (fun sv wd => sv = .bool false ∧ ∃ h', Hid (Le (heapOf W) h') ∧ Hid (Sat W wd (arch h' :: [blk (W.heap.size) (.cells #[(.int .i64 t.k), (.int .i64 t.n), (.string t.nm), (.slice it t.is.length ict), (.slice rt t.rs.length rct), (.slice yt t.bs.length yct)] 25 (0, 0)), blk (W.heap.size + 1) (.cells #[(.int .i64 u.k), (.int .i64 u.n), (.string u.nm), (.slice iu u.is.length icu), (.slice ru u.rs.length rcu), (.slice yu u.bs.length ycu)] 25 (0, 0)), blk (W.heap.size + 2) (.cells #[(.int .i64 v.k), (.int .i64 v.n), (.string v.nm), (.slice iv v.is.length icv), (.slice rv v.rs.length rcv), (.slice yv v.bs.length ycv)] 25 (0, 0))])))
                  case first =>
                    replace SS := hid SS.out.drew
                    refine wp_region_noPanic ?_
                    refine wp_region_held_drew (S := fun w' => World.cell? w' ⟨W.heap.size, 0, none⟩ = some (.int .i64 t.k) ∧ World.cell? w' ⟨W.heap.size, 1, none⟩ = some (.int .i64 t.n) ∧ World.cell? w' ⟨W.heap.size, 2, none⟩ = some (.string t.nm) ∧ World.cell? w' ⟨W.heap.size, 3, none⟩ = some (.slice it t.is.length ict) ∧ World.cell? w' ⟨W.heap.size, 4, none⟩ = some (.slice rt t.rs.length rct) ∧ World.cell? w' ⟨W.heap.size, 5, none⟩ = some (.slice yt t.bs.length yct) ∧ World.cell? w' ⟨W.heap.size + 1, 0, none⟩ = some (.int .i64 u.k) ∧ World.cell? w' ⟨W.heap.size + 1, 1, none⟩ = some (.int .i64 u.n) ∧ World.cell? w' ⟨W.heap.size + 1, 2, none⟩ = some (.string u.nm) ∧ World.cell? w' ⟨W.heap.size + 1, 3, none⟩ = some (.slice iu u.is.length icu) ∧ World.cell? w' ⟨W.heap.size + 1, 4, none⟩ = some (.slice ru u.rs.length rcu) ∧ World.cell? w' ⟨W.heap.size + 1, 5, none⟩ = some (.slice yu u.bs.length ycu) ∧ World.cell? w' ⟨W.heap.size + 2, 0, none⟩ = some (.int .i64 v.k) ∧ World.cell? w' ⟨W.heap.size + 2, 1, none⟩ = some (.int .i64 v.n) ∧ World.cell? w' ⟨W.heap.size + 2, 2, none⟩ = some (.string v.nm) ∧ World.cell? w' ⟨W.heap.size + 2, 3, none⟩ = some (.slice iv v.is.length icv) ∧ World.cell? w' ⟨W.heap.size + 2, 4, none⟩ = some (.slice rv v.rs.length rcv) ∧ World.cell? w' ⟨W.heap.size + 2, 5, none⟩ = some (.slice yv v.bs.length ycv)) (by kernel_rfl) (by exact HF.out _ _ SS.out) (fun hHeld => ?_)
                    refine wpAnyH_takeD (i := 0) (d := 56) (v := ?_) rfl (by kernel_rfl) (by kernel_rfl) (by kernel_rfl) (by kernel_rfl) (fun _ _ _ h => h) (Or.inl ⟨by rfl, ?_⟩) (by assumption) ?_
                    rotate_left
                    · intro w hSw; (try dsimp only at hSw); go_simp; all_goals with_reducible rfl
                    try simp only [Act.put, List.setIfInBounds_toArray, List.set_cons_zero, List.set_cons_succ]
                    refine wpAnyH_takeD (i := 1) (d := 57) (v := ?_) rfl (by kernel_rfl) (by kernel_rfl) (by kernel_rfl) (by kernel_rfl) (fun _ _ _ h => h) (Or.inl ⟨by rfl, ?_⟩) (by assumption) ?_
                    rotate_left
                    · intro w hSw; (try dsimp only at hSw); go_simp; all_goals with_reducible rfl
                    try simp only [Act.put, List.setIfInBounds_toArray, List.set_cons_zero, List.set_cons_succ]
                    refine wpAnyH_takeD (i := 2) (d := 58) (v := ?_) rfl (by kernel_rfl) (by kernel_rfl) (by kernel_rfl) (by kernel_rfl) (fun _ _ _ h => h) (Or.inl ⟨by rfl, ?_⟩) (by assumption) ?_
                    rotate_left
                    · intro w hSw; (try dsimp only at hSw); go_simp; all_goals with_reducible rfl
                    try simp only [Act.put, List.setIfInBounds_toArray, List.set_cons_zero, List.set_cons_succ]
                    refine wpAnyH_takeD (i := 3) (d := 59) (v := ?_) rfl (by kernel_rfl) (by kernel_rfl) (by kernel_rfl) (by kernel_rfl) (fun _ _ _ h => h) (Or.inl ⟨by rfl, ?_⟩) (by assumption) ?_
                    rotate_left
                    · intro w hSw; (try dsimp only at hSw); go_simp; all_goals with_reducible rfl
                    try simp only [Act.put, List.setIfInBounds_toArray, List.set_cons_zero, List.set_cons_succ]
                    refine wpAnyH_takeD (i := 4) (d := 60) (v := ?_) rfl (by kernel_rfl) (by kernel_rfl) (by kernel_rfl) (by kernel_rfl) (fun _ _ _ h => h) (Or.inl ⟨by rfl, ?_⟩) (by assumption) ?_
                    rotate_left
                    · intro w hSw; (try dsimp only at hSw); go_simp; all_goals with_reducible rfl
                    try simp only [Act.put, List.setIfInBounds_toArray, List.set_cons_zero, List.set_cons_succ]
                    refine wpAnyH_takeD (i := 5) (d := 61) (v := ?_) rfl (by kernel_rfl) (by kernel_rfl) (by kernel_rfl) (by kernel_rfl) (fun _ _ _ h => h) (Or.inl ⟨by rfl, ?_⟩) (by assumption) ?_
                    rotate_left
                    · intro w hSw; (try dsimp only at hSw); go_simp; all_goals with_reducible rfl
                    try simp only [Act.put, List.setIfInBounds_toArray, List.set_cons_zero, List.set_cons_succ]
                    refine wpAnyH_takeD (i := 6) (d := 62) (v := ?_) rfl (by kernel_rfl) (by kernel_rfl) (by kernel_rfl) (by kernel_rfl) (fun _ _ _ h => h) (Or.inl ⟨by rfl, ?_⟩) (by assumption) ?_
                    rotate_left
                    · intro w hSw; (try dsimp only at hSw); go_simp; all_goals with_reducible rfl
                    try simp only [Act.put, List.setIfInBounds_toArray, List.set_cons_zero, List.set_cons_succ]
                    refine wpAnyH_takeD (i := 7) (d := 63) (v := ?_) rfl (by kernel_rfl) (by kernel_rfl) (by kernel_rfl) (by kernel_rfl) (fun _ _ _ h => h) (Or.inl ⟨by rfl, ?_⟩) (by assumption) ?_
                    rotate_left
                    · intro w hSw; (try dsimp only at hSw); go_simp; all_goals with_reducible rfl
                    try simp only [Act.put, List.setIfInBounds_toArray, List.set_cons_zero, List.set_cons_succ]
                    refine wpAnyH_takeD (i := 9) (d := 65) (v := ?_) rfl (by kernel_rfl) (by kernel_rfl) (by kernel_rfl) (by kernel_rfl) (fun _ _ _ h => h) (Or.inl ⟨by rfl, ?_⟩) (by assumption) ?_
                    rotate_left
                    · intro w hSw; (try dsimp only at hSw); go_simp; all_goals with_reducible rfl
                    try simp only [Act.put, List.setIfInBounds_toArray, List.set_cons_zero, List.set_cons_succ]
                    refine wpAnyH_ready (rs := [8]) (by kernel_rfl) (by simp) ?_
                    refine AllReadyH.cons (o := _) rfl (fun K hK => ?_) AllReadyH.nil
                    go_simp
                    fail_if_success have tok := Qt1.out
                    go_at_call 16
                    with_reducible refine (HCt.out _ _ SL.out SS.out).mono ?_
                    rintro e wt10 ⟨itt1, ictt1, rtt1, rctt1, ytt1, yctt1, ht10, rfl, l, q, s⟩
                    try replace Qt2 := hid (TIn.mono l _ Qt2.out)
                    try replace Qu1 := hid (TIn.mono l _ Qu1.out)
                    try replace Qv1 := hid (TIn.mono l _ Qv1.out)
                    have Qt1 := hid q
                    replace SL := hid (SL.out.trans l)
                    replace SS := hid s
                    clear l q s
                    clear hHeld
                    refine hK.out _ _ ?_ (fun hHeld => ?_)
                    · (try dsimp only); exact HF.out _ _ SS.out
                    clear hK K
                    try simp only [Act.put, List.setIfInBounds_toArray, List.set_cons_zero, List.set_cons_succ]
                    refine wpAnyH_ready (rs := [10]) (by kernel_rfl) (by simp) ?_
                    refine AllReadyH.cons (o := _) rfl (fun K hK => ?_) AllReadyH.nil
                    go_simp
                    fail_if_success have tok := Qv1.out
                    go_at_call 16
                    with_reducible refine (HCv.out _ _ SL.out SS.out).mono ?_
                    rintro e wv11 ⟨ivv1, icvv1, rvv1, rcvv1, yvv1, ycvv1, hv11, rfl, l, q, s⟩
                    try replace Qt1 := hid (TIn.mono l _ Qt1.out)
                    try replace Qt2 := hid (TIn.mono l _ Qt2.out)
                    try replace Qu1 := hid (TIn.mono l _ Qu1.out)
                    have Qv1 := hid q
                    replace SL := hid (SL.out.trans l)
                    replace SS := hid s
                    clear l q s
                    clear hHeld
                    refine hK.out _ _ ?_ (fun hHeld => ?_)
                    · (try dsimp only); exact HF.out _ _ SS.out
                    clear hK K
                    try simp only [Act.put, List.setIfInBounds_toArray, List.set_cons_zero, List.set_cons_succ]
                    refine wpAnyH_ready (rs := [11]) (by kernel_rfl) (by simp) ?_
                    refine AllReadyH.cons (o := _) rfl (fun K hK => ?_) AllReadyH.nil
                    go_simp
                    go_at_call 21
                    with_reducible refine (cmp_lit SS.out t v Qt1.out Qv1.out HOt.out HOv.out HRt.out HRv.out HZtv.out).mono ?_
                    rintro e wc ⟨rfl, s⟩
                    replace SS := hid s
                    clear s Qt1 Qv1
                    clear hHeld
                    refine hK.out _ _ ?_ (fun hHeld => ?_)
                    · (try dsimp only); exact HF.out _ _ SS.out
                    clear hK K
                    try simp only [Act.put, List.setIfInBounds_toArray, List.set_cons_zero, List.set_cons_succ]
                    refine wpAnyH_takeD (i := 12) (d := 68) (v := ?_) rfl (by kernel_rfl) (by kernel_rfl) (by kernel_rfl) (by kernel_rfl) (fun _ _ _ h => h) (Or.inl ⟨by rfl, ?_⟩) (by assumption) ?_
                    rotate_left
                    · intro w hSw; (try dsimp only at hSw); go_simp; all_goals with_reducible rfl
                    try simp only [Act.put, List.setIfInBounds_toArray, List.set_cons_zero, List.set_cons_succ]
                    refine wpAnyH_takeD (i := 13) (d := 69) (v := ?_) rfl (by kernel_rfl) (by kernel_rfl) (by kernel_rfl) (by kernel_rfl) (fun _ _ _ h => h) (Or.inl ⟨by rfl, ?_⟩) (by assumption) ?_
                    rotate_left
                    · intro w hSw; (try dsimp only at hSw); go_simp; all_goals with_reducible rfl
                    try simp only [Act.put, List.setIfInBounds_toArray, List.set_cons_zero, List.set_cons_succ]
                    refine wpAnyH_takeD (i := 14) (d := 70) (v := ?_) rfl (by kernel_rfl) (by kernel_rfl) (by kernel_rfl) (by kernel_rfl) (fun _ _ _ h => h) (Or.inl ⟨by rfl, ?_⟩) (by assumption) ?_
                    rotate_left
                    · intro w hSw; (try dsimp only at hSw); go_simp; all_goals with_reducible rfl
                    try simp only [Act.put, List.setIfInBounds_toArray, List.set_cons_zero, List.set_cons_succ]
                    refine wpAnyH_takeD (i := 15) (d := 71) (v := ?_) rfl (by kernel_rfl) (by kernel_rfl) (by kernel_rfl) (by kernel_rfl) (fun _ _ _ h => h) (Or.inl ⟨by rfl, ?_⟩) (by assumption) ?_
                    rotate_left
                    · intro w hSw; (try dsimp only at hSw); go_simp; all_goals with_reducible rfl
                    try simp only [Act.put, List.setIfInBounds_toArray, List.set_cons_zero, List.set_cons_succ]
                    refine wpAnyH_takeD (i := 16) (d := 72) (v := ?_) rfl (by kernel_rfl) (by kernel_rfl) (by kernel_rfl) (by kernel_rfl) (fun _ _ _ h => h) (Or.inl ⟨by rfl, ?_⟩) (by assumption) ?_
                    rotate_left
                    · intro w hSw; (try dsimp only at hSw); go_simp; all_goals with_reducible rfl
                    try simp only [Act.put, List.setIfInBounds_toArray, List.set_cons_zero, List.set_cons_succ]
                    refine wpAnyH_takeD (i := 17) (d := 73) (v := ?_) rfl (by kernel_rfl) (by kernel_rfl) (by kernel_rfl) (by kernel_rfl) (fun _ _ _ h => h) (Or.inl ⟨by rfl, ?_⟩) (by assumption) ?_
                    rotate_left
                    · intro w hSw; (try dsimp only at hSw); go_simp; all_goals with_reducible rfl
                    try simp only [Act.put, List.setIfInBounds_toArray, List.set_cons_zero, List.set_cons_succ]
                    refine wpAnyH_takeD (i := 18) (d := 74) (v := undef) rfl (by kernel_rfl) (by kernel_rfl) (by kernel_rfl) (by kernel_rfl) (fun _ _ _ h => h) (Or.inr ⟨by rfl, rfl⟩) (by assumption) ?_
                    try simp only [Act.put, List.setIfInBounds_toArray, List.set_cons_zero, List.set_cons_succ]
                    refine wpAnyH_takeD (i := 19) (d := 75) (v := undef) rfl (by kernel_rfl) (by kernel_rfl) (by kernel_rfl) (by kernel_rfl) (fun _ _ _ h => h) (Or.inr ⟨by rfl, rfl⟩) (by assumption) ?_
                    try simp only [Act.put, List.setIfInBounds_toArray, List.set_cons_zero, List.set_cons_succ]
                    refine wpAnyH_takeD (i := 20) (d := 76) (v := ?_) rfl (by kernel_rfl) (by kernel_rfl) (by kernel_rfl) (by kernel_rfl) (fun _ _ _ h => h) (Or.inl ⟨by rfl, ?_⟩) (by assumption) ?_
                    rotate_left
                    · intro w hSw; (try dsimp only at hSw); go_simp; all_goals with_reducible rfl
                    try simp only [Act.put, List.setIfInBounds_toArray, List.set_cons_zero, List.set_cons_succ]
                    refine wpAnyH_takeD (i := 21) (d := 77) (v := ?_) rfl (by kernel_rfl) (by kernel_rfl) (by kernel_rfl) (by kernel_rfl) (fun _ _ _ h => h) (Or.inl ⟨by rfl, ?_⟩) (by assumption) ?_
                    rotate_left
                    · intro w hSw; (try dsimp only at hSw); go_simp; all_goals with_reducible rfl
                    try simp only [Act.put, List.setIfInBounds_toArray, List.set_cons_zero, List.set_cons_succ]
                    refine wpAnyH_takeD (i := 22) (d := 78) (v := undef) rfl (by kernel_rfl) (by kernel_rfl) (by kernel_rfl) (by kernel_rfl) (fun _ _ _ h => h) (Or.inr ⟨by rfl, rfl⟩) (by assumption) ?_
                    try simp only [Act.put, List.setIfInBounds_toArray, List.set_cons_zero, List.set_cons_succ]
                    refine wpAnyH_takeD (i := 24) (d := 80) (v := undef) rfl (by kernel_rfl) (by kernel_rfl) (by kernel_rfl) (by kernel_rfl) (fun _ _ _ h => h) (Or.inr ⟨by rfl, rfl⟩) (by assumption) ?_
                    try simp only [Act.put, List.setIfInBounds_toArray, List.set_cons_zero, List.set_cons_succ]
                    refine wpAnyH_takeD (i := 23) (d := 79) (v := undef) rfl (by kernel_rfl) (by kernel_rfl) (by kernel_rfl) (by kernel_rfl) (fun _ _ _ h => h) (Or.inr ⟨by rfl, rfl⟩) (by assumption) ?_
                    try simp only [Act.put, List.setIfInBounds_toArray, List.set_cons_zero, List.set_cons_succ]
                    refine wpAnyH_takeD (i := 25) (d := 81) (v := undef) rfl (by kernel_rfl) (by kernel_rfl) (by kernel_rfl) (by kernel_rfl) (fun _ _ _ h => h) (Or.inr ⟨by rfl, rfl⟩) (by assumption) ?_
                    try simp only [Act.put, List.setIfInBounds_toArray, List.set_cons_zero, List.set_cons_succ]
                    refine wpAnyH_takeD (i := 26) (d := 82) (v := undef) rfl (by kernel_rfl) (by kernel_rfl) (by kernel_rfl) (by kernel_rfl) (fun _ _ _ h => h) (Or.inr ⟨by rfl, rfl⟩) (by assumption) ?_
                    try simp only [Act.put, List.setIfInBounds_toArray, List.set_cons_zero, List.set_cons_succ]
                    refine wpAnyH_takeD (i := 27) (d := 83) (v := undef) rfl (by kernel_rfl) (by kernel_rfl) (by kernel_rfl) (by kernel_rfl) (fun _ _ _ h => h) (Or.inr ⟨by rfl, rfl⟩) (by assumption) ?_
                    try simp only [Act.put, List.setIfInBounds_toArray, List.set_cons_zero, List.set_cons_succ]
                    refine wpAnyH_takeD (i := 28) (d := 84) (v := ?_) rfl (by kernel_rfl) (by kernel_rfl) (by kernel_rfl) (by kernel_rfl) (fun _ _ _ h => h) (Or.inl ⟨by rfl, ?_⟩) (by assumption) ?_
                    rotate_left
                    · intro w hSw; (try dsimp only at hSw); go_simp; all_goals with_reducible rfl
                    try simp only [Act.put, List.setIfInBounds_toArray, List.set_cons_zero, List.set_cons_succ]
                    refine wpAnyH_takeD (i := 29) (d := 85) (v := ?_) rfl (by kernel_rfl) (by kernel_rfl) (by kernel_rfl) (by kernel_rfl) (fun _ _ _ h => h) (Or.inl ⟨by rfl, ?_⟩) (by assumption) ?_
                    rotate_left
                    · intro w hSw; (try dsimp only at hSw); go_simp; all_goals with_reducible rfl
                    try simp only [Act.put, List.setIfInBounds_toArray, List.set_cons_zero, List.set_cons_succ]
                    refine wpAnyH_done (by kernel_rfl) ?_ _
                    refine NoPanic.normal ?_
                    all_goals go_wp2_with fail
                    all_goals go_meet
                    all_goals exact ⟨rfl, _, SL, SS⟩
                  case rest =>
                    clear SL SS
                    obtain ⟨rfl, h3, SL, SS⟩ := hcut
                    obtain ⟨kt0, kt1, kt2, kt3, kt4, kt5, ku0, ku1, ku2, ku3, ku4, ku5, kv0, kv1, kv2, kv3, kv4, kv5⟩ := HF.out _ _ SS.out
                    go_wp2_with fail
                    refine (HCt.out _ _ SL.out SS.out).mono ?_
                    rintro e w1 ⟨i1, ic1, r1, rc1, y1, yc1, h1, rfl, l, q, s⟩
                    have HW := hid (write_lit (HT.out.mono (SL.out.trans l)) s t q HOt.out)
                    replace SL := hid (SL.out.trans l)
                    replace SS := hid s
                    clear l q s kt0 kt1 kt2 kt3 kt4 kt5 ku0 ku1 ku2 ku3 ku4 ku5 kv0 kv1 kv2 kv3 kv4 kv5
                    go_wp2_with fail
                    refine HW.out.mono ?_
                    rintro e w2 ⟨sv, v2, h2, rfl, l, e2, s⟩
                    unfold WOf at e2
                    rw [HRt.out] at e2
                    obtain ⟨rfl, qt, rfl, hqt⟩ := e2
                    have HQt := hid hqt
                    replace SL := hid (SL.out.trans l)
                    replace SS := hid s
                    clear l s HW hqt
                    obtain ⟨kt0, kt1, kt2, kt3, kt4, kt5, ku0, ku1, ku2, ku3, ku4, ku5, kv0, kv1, kv2, kv3, kv4, kv5⟩ := HF.out _ _ SS.out
                    go_wp2_with fail
                    refine (HCu.out _ _ SL.out SS.out).mono ?_
                    rintro e w1 ⟨i1, ic1, r1, rc1, y1, yc1, h1, rfl, l, q, s⟩
                    have HW := hid (write_lit (HT.out.mono (SL.out.trans l)) s u q HOu.out)
                    replace SL := hid (SL.out.trans l)
                    replace SS := hid s
                    clear l q s kt0 kt1 kt2 kt3 kt4 kt5 ku0 ku1 ku2 ku3 ku4 ku5 kv0 kv1 kv2 kv3 kv4 kv5
                    go_wp2_with fail
                    refine HW.out.mono ?_
                    rintro e w2 ⟨sv, v2, h2, rfl, l, e2, s⟩
                    unfold WOf at e2
                    rw [HRu.out] at e2
                    obtain ⟨rfl, qu, rfl, hqu⟩ := e2
                    have HQu := hid hqu
                    replace SL := hid (SL.out.trans l)
                    replace SS := hid s
                    clear l s HW hqu
                    have hst : (qt.toList == qu.toList) = true := by rw [same_txt HQt.out HQu.out HOt.out HOu.out HRt.out HRu.out, HZtu.out]; rfl
                    go_wp2_with fail
                    refine (awake_any SS.out).mono ?_
                    rintro e w9 ⟨h9, rfl, l9, s9⟩
                    have L9 := hid (SL.out.trans l9)
                    have S9 := hid s9
                    clear s9 l9 SS
                    go_wp2_with fail
                    go_ret
                    exact ⟨rfl, S9.out.archBelow L9.out⟩
                · have hyd : decide (y ≤ 0) = false := by simpa using hy
                  go_upto_region 7 with fail
                  go_cut [85] from 56 to 84 (fun sv wd => sv = .bool false ∧ ∃ h', Hid (Le (heapOf W) h') ∧ Hid (Sat W wd (arch h' :: [blk (W.heap.size) (.cells #[(.int .i64 t.k), (.int .i64 t.n), (.string t.nm), (.slice it t.is.length ict), (.slice rt t.rs.length rct), (.slice yt t.bs.length yct)] 25 (0, 0)), blk (W.heap.size + 1) (.cells #[(.int .i64 u.k), (.int .i64 u.n), (.string u.nm), (.slice iu u.is.length icu), (.slice ru u.rs.length rcu), (.slice yu u.bs.length ycu)] 25 (0, 0)), blk (W.heap.size + 2) (.cells #[(.int .i64 v.k), (.int .i64 v.n), (.string v.nm), (.slice iv v.is.length icv), (.slice rv v.rs.length rcv), (.slice yv v.bs.length ycv)] 25 (0, 0))])))
                  case first =>
                    go_quiet (fail)
                    all_goals go_wp2_with fail
                    all_goals go_meet
                    all_goals exact ⟨rfl, _, SL, hid (SS.out.drewN _)⟩
                  case rest =>
                    clear SL SS
                    obtain ⟨rfl, h3, SL, SS⟩ := hcut
                    obtain ⟨kt0, kt1, kt2, kt3, kt4, kt5, ku0, ku1, ku2, ku3, ku4, ku5, kv0, kv1, kv2, kv3, kv4, kv5⟩ := HF.out _ _ SS.out
                    go_wp2_with fail
                    refine (HCt.out _ _ SL.out SS.out).mono ?_
                    rintro e w1 ⟨i1, ic1, r1, rc1, y1, yc1, h1, rfl, l, q, s⟩
                    have HW := hid (write_lit (HT.out.mono (SL.out.trans l)) s t q HOt.out)
                    replace SL := hid (SL.out.trans l)
                    replace SS := hid s
                    clear l q s kt0 kt1 kt2 kt3 kt4 kt5 ku0 ku1 ku2 ku3 ku4 ku5 kv0 kv1 kv2 kv3 kv4 kv5
                    go_wp2_with fail
                    refine HW.out.mono ?_
                    rintro e w2 ⟨sv, v2, h2, rfl, l, e2, s⟩
                    unfold WOf at e2
                    rw [HRt.out] at e2
                    obtain ⟨rfl, qt, rfl, hqt⟩ := e2
                    have HQt := hid hqt
                    replace SL := hid (SL.out.trans l)
                    replace SS := hid s
                    clear l s HW hqt
                    obtain ⟨kt0, kt1, kt2, kt3, kt4, kt5, ku0, ku1, ku2, ku3, ku4, ku5, kv0, kv1, kv2, kv3, kv4, kv5⟩ := HF.out _ _ SS.out
                    go_wp2_with fail
                    refine (HCu.out _ _ SL.out SS.out).mono ?_
                    rintro e w1 ⟨i1, ic1, r1, rc1, y1, yc1, h1, rfl, l, q, s⟩
                    have HW := hid (write_lit (HT.out.mono (SL.out.trans l)) s u q HOu.out)
                    replace SL := hid (SL.out.trans l)
                    replace SS := hid s
                    clear l q s kt0 kt1 kt2 kt3 kt4 kt5 ku0 ku1 ku2 ku3 ku4 ku5 kv0 kv1 kv2 kv3 kv4 kv5
                    go_wp2_with fail
                    refine HW.out.mono ?_
                    rintro e w2 ⟨sv, v2, h2, rfl, l, e2, s⟩
                    unfold WOf at e2
                    rw [HRu.out] at e2
                    obtain ⟨rfl, qu, rfl, hqu⟩ := e2
                    have HQu := hid hqu
                    replace SL := hid (SL.out.trans l)
                    replace SS := hid s
                    clear l s HW hqu
                    have hst : (qt.toList == qu.toList) = true := by rw [same_txt HQt.out HQu.out HOt.out HOu.out HRt.out HRu.out, HZtu.out]; rfl
                    go_wp2_with fail
                    refine (awake_any SS.out).mono ?_
                    rintro e w9 ⟨h9, rfl, l9, s9⟩
                    have L9 := hid (SL.out.trans l9)
                    have S9 := hid s9
                    clear s9 l9 SS
                    go_wp2_with fail
                    go_ret
                    exact ⟨rfl, S9.out.archBelow L9.out⟩
            · clear HR3
              replace HZut : Hid (cmp u t = -1) := hid (by have := HZut.out; omega)
              have n1 : IntKind.i64.wrap (-(-1)) = 1 := by decide
              have n2 : wrap64 (-(-1)) = 1 := by decide +kernel
              have n3 : ((1 : Int) != 1) = false := by decide
              clear n1 n2
              have n4 : IntKind.i64.wrap 1 = 1 := by decide +kernel
              have n5 : wrap64 1 = 1 := by decide +kernel
              go_upto_region 5 with fail
              go_cut [55] from 40 to 54 (fun sv wd => sv = .bool false ∧ ∃ h', Hid (Le (heapOf W) h') ∧ Hid (Sat W wd (arch h' :: [blk (W.heap.size) (.cells #[(.int .i64 t.k), (.int .i64 t.n), (.string t.nm), (.slice it t.is.length ict), (.slice rt t.rs.length rct), (.slice yt t.bs.length yct)] 25 (0, 0)), blk (W.heap.size + 1) (.cells #[(.int .i64 u.k), (.int .i64 u.n), (.string u.nm), (.slice iu u.is.length icu), (.slice ru u.rs.length rcu), (.slice yu u.bs.length ycu)] 25 (0, 0)), blk (W.heap.size + 2) (.cells #[(.int .i64 v.k), (.int .i64 v.n), (.string v.nm), (.slice iv v.is.length icv), (.slice rv v.rs.length rcv), (.slice yv v.bs.length ycv)] 25 (0, 0))])))
              case first =>
                replace SS := hid SS.out.drew
                go_region_held3 (fun w' => World.cell? w' ⟨W.heap.size, 0, none⟩ = some (.int .i64 t.k) ∧ World.cell? w' ⟨W.heap.size, 1, none⟩ = some (.int .i64 t.n) ∧ World.cell? w' ⟨W.heap.size, 2, none⟩ = some (.string t.nm) ∧ World.cell? w' ⟨W.heap.size, 3, none⟩ = some (.slice it t.is.length ict) ∧ World.cell? w' ⟨W.heap.size, 4, none⟩ = some (.slice rt t.rs.length rct) ∧ World.cell? w' ⟨W.heap.size, 5, none⟩ = some (.slice yt t.bs.length yct) ∧ World.cell? w' ⟨W.heap.size + 1, 0, none⟩ = some (.int .i64 u.k) ∧ World.cell? w' ⟨W.heap.size + 1, 1, none⟩ = some (.int .i64 u.n) ∧ World.cell? w' ⟨W.heap.size + 1, 2, none⟩ = some (.string u.nm) ∧ World.cell? w' ⟨W.heap.size + 1, 3, none⟩ = some (.slice iu u.is.length icu) ∧ World.cell? w' ⟨W.heap.size + 1, 4, none⟩ = some (.slice ru u.rs.length rcu) ∧ World.cell? w' ⟨W.heap.size + 1, 5, none⟩ = some (.slice yu u.bs.length ycu) ∧ World.cell? w' ⟨W.heap.size + 2, 0, none⟩ = some (.int .i64 v.k) ∧ World.cell? w' ⟨W.heap.size + 2, 1, none⟩ = some (.int .i64 v.n) ∧ World.cell? w' ⟨W.heap.size + 2, 2, none⟩ = some (.string v.nm) ∧ World.cell? w' ⟨W.heap.size + 2, 3, none⟩ = some (.slice iv v.is.length icv) ∧ World.cell? w' ⟨W.heap.size + 2, 4, none⟩ = some (.slice rv v.rs.length rcv) ∧ World.cell? w' ⟨W.heap.size + 2, 5, none⟩ = some (.slice yv v.bs.length ycv)) (exact HF.out _ _ SS.out) (first
                  | (go_at_call 21
                     with_reducible refine (cmp_lit SS.out u t Qu1.out Qt1.out HOu.out HOt.out HRu.out HRt.out HZut.out).mono ?_
                     rintro e wc ⟨rfl, s⟩
                     replace SS := hid s
                     clear s Qu1 Qt1
                     have MK : True := trivial)
                  | (go_at_call 21
                     with_reducible refine (cmp_lit SS.out t t Qt1.out Qt2.out HOt.out HOt.out HRt.out HRt.out HZtt.out).mono ?_
                     rintro e wc ⟨rfl, s⟩
                     replace SS := hid s
                     clear s Qt1 Qt2)
                  | (go_at_call 21
                     with_reducible refine (cmp_lit SS.out t t Qt2.out Qt1.out HOt.out HOt.out HRt.out HRt.out HZtt.out).mono ?_
                     rintro e wc ⟨rfl, s⟩
                     replace SS := hid s
                     clear s Qt2 Qt1)
                  | (fail_if_success have tok := MK
                     fail_if_success have tok := Qu1.out
                     go_at_call 16
                     with_reducible refine (HCu.out _ _ SL.out SS.out).mono ?_
                     rintro e wu5 ⟨iuu1, icuu1, ruu1, rcuu1, yuu1, ycuu1, hu5, rfl, l, q, s⟩
                     try replace Qt1 := hid (TIn.mono l _ Qt1.out)
                     try replace Qt2 := hid (TIn.mono l _ Qt2.out)
                     try replace Qv1 := hid (TIn.mono l _ Qv1.out)
                     have Qu1 := hid q
                     replace SL := hid (SL.out.trans l)
                     replace SS := hid s
                     clear l q s)
                  | (have tok := Qt1.out
                     clear tok
                     go_at_call 16
                     with_reducible refine (HCt.out _ _ SL.out SS.out).mono ?_
                     rintro e wt6 ⟨itt2, ictt2, rtt2, rctt2, ytt2, yctt2, ht6, rfl, l, q, s⟩
                     try replace Qt1 := hid (TIn.mono l _ Qt1.out)
                     try replace Qu1 := hid (TIn.mono l _ Qu1.out)
                     try replace Qv1 := hid (TIn.mono l _ Qv1.out)
                     have Qt2 := hid q
                     replace SL := hid (SL.out.trans l)
                     replace SS := hid s
                     clear l q s)
                  | (fail_if_success have tok := Qt1.out
                     go_at_call 16
                     with_reducible refine (HCt.out _ _ SL.out SS.out).mono ?_
                     rintro e wt7 ⟨itt1, ictt1, rtt1, rctt1, ytt1, yctt1, ht7, rfl, l, q, s⟩
                     try replace Qt2 := hid (TIn.mono l _ Qt2.out)
                     try replace Qu1 := hid (TIn.mono l _ Qu1.out)
                     try replace Qv1 := hid (TIn.mono l _ Qv1.out)
                     have Qt1 := hid q
                     replace SL := hid (SL.out.trans l)
                     replace SS := hid s
                     clear l q s))
                all_goals go_wp2_with fail
                all_goals go_meet
                all_goals exact ⟨rfl, _, SL, SS⟩
              case rest =>
                clear SL SS
                obtain ⟨rfl, h3, SL, SS⟩ := hcut
                go_upto_region 7 with fail
                go_cut [85] from 56 to 84 (fun sv wd => sv = .bool false ∧ ∃ h', Hid (Le (heapOf W) h') ∧ Hid (Sat W wd (arch h' :: [blk (W.heap.size) (.cells #[(.int .i64 t.k), (.int .i64 t.n), (.string t.nm), (.slice it t.is.length ict), (.slice rt t.rs.length rct), (.slice yt t.bs.length yct)] 25 (0, 0)), blk (W.heap.size + 1) (.cells #[(.int .i64 u.k), (.int .i64 u.n), (.string u.nm), (.slice iu u.is.length icu), (.slice ru u.rs.length rcu), (.slice yu u.bs.length ycu)] 25 (0, 0)), blk (W.heap.size + 2) (.cells #[(.int .i64 v.k), (.int .i64 v.n), (.string v.nm), (.slice iv v.is.length icv), (.slice rv v.rs.length rcv), (.slice yv v.bs.length ycv)] 25 (0, 0))])))
                case first =>
                  go_quiet (fail)
                  all_goals go_wp2_with fail
                  all_goals go_meet
                  all_goals exact ⟨rfl, _, SL, hid (SS.out.drewN _)⟩
                case rest =>
                  clear SL SS
                  obtain ⟨rfl, h3, SL, SS⟩ := hcut
                  obtain ⟨kt0, kt1, kt2, kt3, kt4, kt5, ku0, ku1, ku2, ku3, ku4, ku5, kv0, kv1, kv2, kv3, kv4, kv5⟩ := HF.out _ _ SS.out
                  go_wp2_with fail
                  refine (HCt.out _ _ SL.out SS.out).mono ?_
                  rintro e w1 ⟨i1, ic1, r1, rc1, y1, yc1, h1, rfl, l, q, s⟩
                  have HW := hid (write_lit (HT.out.mono (SL.out.trans l)) s t q HOt.out)
                  replace SL := hid (SL.out.trans l)
                  replace SS := hid s
                  clear l q s kt0 kt1 kt2 kt3 kt4 kt5 ku0 ku1 ku2 ku3 ku4 ku5 kv0 kv1 kv2 kv3 kv4 kv5
                  go_wp2_with fail
                  refine HW.out.mono ?_
                  rintro e w2 ⟨sv, v2, h2, rfl, l, e2, s⟩
                  unfold WOf at e2
                  rw [HRt.out] at e2
                  obtain ⟨rfl, qt, rfl, hqt⟩ := e2
                  have HQt := hid hqt
                  replace SL := hid (SL.out.trans l)
                  replace SS := hid s
                  clear l s HW hqt
                  obtain ⟨kt0, kt1, kt2, kt3, kt4, kt5, ku0, ku1, ku2, ku3, ku4, ku5, kv0, kv1, kv2, kv3, kv4, kv5⟩ := HF.out _ _ SS.out
                  go_wp2_with fail
                  refine (HCu.out _ _ SL.out SS.out).mono ?_
                  rintro e w1 ⟨i1, ic1, r1, rc1, y1, yc1, h1, rfl, l, q, s⟩
                  have HW := hid (write_lit (HT.out.mono (SL.out.trans l)) s u q HOu.out)
                  replace SL := hid (SL.out.trans l)
                  replace SS := hid s
                  clear l q s kt0 kt1 kt2 kt3 kt4 kt5 ku0 ku1 ku2 ku3 ku4 ku5 kv0 kv1 kv2 kv3 kv4 kv5
                  go_wp2_with fail
                  refine HW.out.mono ?_
                  rintro e w2 ⟨sv, v2, h2, rfl, l, e2, s⟩
                  unfold WOf at e2
                  rw [HRu.out] at e2
                  obtain ⟨rfl, qu, rfl, hqu⟩ := e2
                  have HQu := hid hqu
                  replace SL := hid (SL.out.trans l)
                  replace SS := hid s
                  clear l s HW hqu
                  have hst : (qt.toList == qu.toList) = false := by rw [same_txt HQt.out HQu.out HOt.out HOu.out HRt.out HRu.out, HZtu.out]; rfl
                  go_wp2_with fail
                  refine (awake_any SS.out).mono ?_
                  rintro e w9 ⟨h9, rfl, l9, s9⟩
                  have L9 := hid (SL.out.trans l9)
                  have S9 := hid s9
                  clear s9 l9 SS
                  go_wp2_with fail
                  go_ret
                  exact ⟨rfl, S9.out.archBelow L9.out⟩
end Go.Proofs.YteaabbghnfideaaDoor
