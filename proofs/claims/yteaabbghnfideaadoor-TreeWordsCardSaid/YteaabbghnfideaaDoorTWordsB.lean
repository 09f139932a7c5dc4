/-
  TreeWords: the document's Words; the law's own walk.
-/
import Derived.Test.YteaabbghnfideaaDoorTWords
import Derived.Test.YteaabbghnfideaaDoorLawTR
namespace Go.Proofs.YteaabbghnfideaaDoor
open Go.RowKit
set_option maxHeartbeats 2000000

section
variable {W w : World} {L : List HP} {h : Nat → Option Obj}
theorem wordsX_any (S : Sat W w (arch h :: L)) (t : T) (vs : List Value) (hin : TIn h t vs) (hok : TOk t) :
    Calls Tryd.prog 27 #[.agg vs.toArray] w fun e w' => ∃ h', e = .returned (.int .i64 (wdsOf t)) ∧ Le h h' ∧ Sat W w' (arch h' :: L) := by
  obtain ⟨ia, ic, ra, rc, ba, bc, rfl, _⟩ := hin.vals
  have S0 := (S.alloc (.cells (tVals t ia ic ra rc ba bc).toArray 25)).swap
  have HC := hid (xright_t S0 t (tVals t ia ic ra rc ba bc) hin hok)
  have HIN := hid hin
  have HOK := hid hok
  have c0 := S0.swap.get
  unfold tVals at HC HIN c0 ⊢
  clear S S0 hin hok
  go_enter Tryd.func27, Tryd.ntmps27
  go_wp2_with fail
  refine HC.out.mono ?_
  rintro e w1 ⟨v, h1, rfl, l1, e1, s1⟩
  have L1 := hid l1
  have S1 := hid s1
  have k0 : w1.cell? ⟨w.heap.size, 0, none⟩ = some (.int .i64 t.k) := s1.swap.cell 0
  have k1 : w1.cell? ⟨w.heap.size, 1, none⟩ = some (.int .i64 t.n) := s1.swap.cell 1
  have k2 : w1.cell? ⟨w.heap.size, 2, none⟩ = some (.string t.nm) := s1.swap.cell 2
  have k3 : w1.cell? ⟨w.heap.size, 3, none⟩ = some (.slice ia t.is.length ic) := s1.swap.cell 3
  have k4 : w1.cell? ⟨w.heap.size, 4, none⟩ = some (.slice ra t.rs.length rc) := s1.swap.cell 4
  have k5 : w1.cell? ⟨w.heap.size, 5, none⟩ = some (.slice ba t.bs.length bc) := s1.swap.cell 5
  clear l1 s1 HC
  cases hr : rightOf t with
  | some nk =>
    obtain ⟨n, k⟩ := nk
    rw [hr] at e1
    have e1 : XIn h1 v [(tTerm, n)] k := e1
    obtain ⟨b, rfl⟩ := e1.some
    have hwo : wdsOf t = 0 := by unfold wdsOf; rw [hr]; simp
    have HWO := hid hwo
    clear hr e1 hwo
    go_wp2_with fail
    go_ret
    exact ⟨h1, by rw [HWO.out]; rfl, L1.out, S1.out.swap.drop⟩
  | none =>
    rw [hr] at e1
    have e1 : v = none := e1
    subst e1
    have hwo : wdsOf t = IntKind.i64.wrap (wds t) := by unfold wdsOf; rw [hr]; simp
    have HWO := hid hwo
    have hwt := wordsX_t t HOK.out (right_fl hr) W _ _ h1 _ S1.out.swap.drop (TIn.mono L1.out t HIN.out)
    have HWT := hid hwt
    clear hr hwo hwt
    go_wp2_with fail
    refine HWT.out.mono ?_
    rintro e w2 ⟨rfl, s2⟩
    have S2 := hid s2
    clear s2 HWT
    go_wp2_with fail
    go_ret
    exact ⟨h1, by rw [HWO.out]; rfl, L1.out, S2.out⟩
end
set_option maxRecDepth 100000 in
theorem words_walk {W : World} {t : T} (cs : Array Value) (hg : TGood W cs.toList t) : Calls Tryd.prog 9 #[.agg cs] W fun e w' => e = .returned (.bool true) ∧ Below W.heap.size W w' := by
  obtain ⟨hin, hok⟩ := hg
  obtain ⟨ia, ic, ra, rc, ba, bc, hcs, _⟩ := id hin.vals
  obtain rfl : cs = (tVals t ia ic ra rc ba bc).toArray := by rw [← hcs]
  have S0 := hid ((Sat.startArch W).alloc (.cells (tVals t ia ic ra rc ba bc).toArray 25)).swap
  have HC := hid (c_any S0.out.drew t (tVals t ia ic ra rc ba bc) hin hok)
  have HIN := hid hin
  have HOK := hid hok
  have c0 := S0.out.swap.get
  have S0d := hid S0.out.drew
  unfold tVals at HC HIN c0 ⊢
  clear hcs hin hok S0
  go_enter Tryd.func9, Tryd.ntmps9
  go_wp2_with fail
  go_region_law (first
    | (go_simp
       go_at_call 16
       refine HC.out.mono ?_
       rintro e w1 ⟨vs1, h1, rfl, l1, q1, s1⟩
       have HL1 := hid l1
       have S1 := hid s1
       have HR := hid (words_any s1 t vs1 q1 HOK.out)
       have k10 : w1.cell? ⟨W.heap.size, 0, none⟩ = some (.int .i64 t.k) := s1.swap.cell 0
       have k11 : w1.cell? ⟨W.heap.size, 1, none⟩ = some (.int .i64 t.n) := s1.swap.cell 1
       have k12 : w1.cell? ⟨W.heap.size, 2, none⟩ = some (.string t.nm) := s1.swap.cell 2
       have k13 : w1.cell? ⟨W.heap.size, 3, none⟩ = some (.slice ia t.is.length ic) := s1.swap.cell 3
       have k14 : w1.cell? ⟨W.heap.size, 4, none⟩ = some (.slice ra t.rs.length rc) := s1.swap.cell 4
       have k15 : w1.cell? ⟨W.heap.size, 5, none⟩ = some (.slice ba t.bs.length bc) := s1.swap.cell 5
       clear l1 s1 q1)
    | (go_simp
       go_at_call 26
       refine HR.out.mono ?_
       rintro e w2 ⟨h2, rfl, l2, s2⟩
       have HL2 := hid (HL1.out.trans l2)
       have S2 := hid s2
       have HX := hid (wordsX_any s2 t _ (TIn.mono HL2.out t HIN.out) HOK.out)
       have k20 : w2.cell? ⟨W.heap.size, 0, none⟩ = some (.int .i64 t.k) := s2.swap.cell 0
       have k21 : w2.cell? ⟨W.heap.size, 1, none⟩ = some (.int .i64 t.n) := s2.swap.cell 1
       have k22 : w2.cell? ⟨W.heap.size, 2, none⟩ = some (.string t.nm) := s2.swap.cell 2
       have k23 : w2.cell? ⟨W.heap.size, 3, none⟩ = some (.slice ia t.is.length ic) := s2.swap.cell 3
       have k24 : w2.cell? ⟨W.heap.size, 4, none⟩ = some (.slice ra t.rs.length rc) := s2.swap.cell 4
       have k25 : w2.cell? ⟨W.heap.size, 5, none⟩ = some (.slice ba t.bs.length bc) := s2.swap.cell 5
       clear l2 s2 S1)
    | (go_simp
       go_at_call 27
       refine HX.out.mono ?_
       rintro e w3 ⟨h3, rfl, l3, s3⟩
       have HL3 := hid (HL2.out.trans l3)
       have S3 := hid s3
       clear l3 s3 S2)
    | (go_simp
       go_at_call 18
       refine (awake_any S3.out).mono ?_
       rintro e w5 ⟨h5, rfl, l5, s5⟩
       have HL5 := hid (HL3.out.trans l5)
       have S5 := hid s5
       clear l5 s5 S3))
  all_goals go_wp2_with fail
  all_goals go_ret
  all_goals exact ⟨rfl, S5.out.archBelow HL5.out⟩
#print axioms words_walk
end Go.Proofs.YteaabbghnfideaaDoor
