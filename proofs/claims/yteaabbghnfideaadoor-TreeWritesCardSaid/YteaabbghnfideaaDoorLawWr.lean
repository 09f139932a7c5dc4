/-
  TreeWrites: the law's own walk.
-/
import Derived.Test.YteaabbghnfideaaDoorDocE
namespace Go.Proofs.YteaabbghnfideaaDoor
open Go.RowKit
set_option maxHeartbeats 4000000
set_option maxRecDepth 100000

/-- the two answers fit -/
def WBoth (h : Nat → Option Obj) (s1 : Value) (v : Value) (s2 : ByteArray) (x : Option Addr) : Prop :=
  s1 = .string s2 ∧ ((v = .nilIface ∧ x = none) ∨ ∃ n k, k ≠ 0 ∧ ErrIn h v [(tWrite, 0), (tTerm, n)] k ∧ XIn h x [(tWrite, 0), (tTerm, n)] k)
theorem wboth {h h' : Nat → Option Obj} {t : T} {s1 v : Value} {s2 : ByteArray} {x : Option Addr} (l : Le h h') (p : WOf h t s1 v) (q : WXOf h' t s2 x) : WBoth h' s1 v s2 x := by
  unfold WOf at p
  unfold WXOf at q
  cases hr : rightOf t with
  | none =>
    rw [hr] at p q
    obtain ⟨rfl, q1, rfl, hq⟩ := p
    obtain ⟨rfl, hs⟩ := q
    have e : q1 = s2 := byts_inj (by rw [hq, hs])
    subst e
    exact ⟨rfl, .inl ⟨rfl, rfl⟩⟩
  | some nk =>
    obtain ⟨n, k⟩ := nk
    rw [hr] at p q
    obtain ⟨rfl, he⟩ := p
    obtain ⟨rfl, hx⟩ := q
    exact ⟨rfl, .inr ⟨n, k, rightOf_kind hr, he.mono l, hx⟩⟩
theorem ref_both {W w : World} {L : List HP} {h : Nat → Option Obj} (S : Sat W w (arch h :: L)) {s1 v : Value} {s2 : ByteArray} {x : Option Addr} (q : WBoth h s1 v s2 x) :
    Calls Tryd.prog 14 #[v, .pointer x] w fun e w' => e = .returned (.bool true) ∧ Sat W w' (arch h :: L) := by
  rcases q.2 with ⟨rfl, rfl⟩ | ⟨n, k, hk, he, hx⟩
  · exact (ref_nil w).mono fun e w' ⟨he, hw⟩ => ⟨he, S.quiet hw⟩
  · exact ref_err S he hx hk (by simp)
theorem writes_walk {W : World} {t : T} (cs : Array Value) (hg : TGood W cs.toList t) (hT : Tab (heapOf W)) : Calls Tryd.prog 4 #[.agg cs] W fun e w' => e = .returned (.bool true) ∧ Below W.heap.size W w' := by
  obtain ⟨hin, hok⟩ := hg
  obtain ⟨ia, ic, ra, rc, ba, bc, hcs, _⟩ := id hin.vals
  obtain rfl : cs = (tVals t ia ic ra rc ba bc).toArray := by rw [← hcs]
  have hin : TIn (heapOf W) t (tVals t ia ic ra rc ba bc) := hin
  have S0 := hid ((Sat.startArch W).allocAt (k := W.heap.size) (.cells (tVals t ia ic ra rc ba bc).toArray 25) rfl).swap
  have HC := hid (c_any S0.out t _ hin hok)
  have HIN := hid hin
  have HOK := hid hok
  have HT := hid hT
  unfold tVals at S0 HC HIN ⊢
  have c0 := S0.out.swap.cell 0
  have c1 := S0.out.swap.cell 1
  have c2 := S0.out.swap.cell 2
  have c3 := S0.out.swap.cell 3
  have c4 := S0.out.swap.cell 4
  have c5 := S0.out.swap.cell 5
  simp only [List.getElem?_toArray, List.getElem?_cons_zero, List.getElem?_cons_succ] at c0 c1 c2 c3 c4 c5
  clear hcs hin hok hT
  go_enter Tryd.func4, Tryd.ntmps4
  go_wp2_with fail
  refine HC.out.mono ?_
  rintro e w1 ⟨vs1, h1, rfl, l1, q1, s1⟩
  have HW := hid (write_any (HT.out.mono l1) s1 t _ q1 HOK.out)
  have HL1 := hid l1
  clear HC S0 c0 c1 c2 c3 c4 c5 l1 q1 s1
  go_wp2_with fail
  refine HW.out.mono ?_
  rintro e w2 ⟨s1, v, h2, rfl, l2, p2, s2⟩
  have HL2 := hid (HL1.out.trans l2)
  have HP := hid p2
  have c0 := s2.swap.cell 0
  have c1 := s2.swap.cell 1
  have c2 := s2.swap.cell 2
  have c3 := s2.swap.cell 3
  have c4 := s2.swap.cell 4
  have c5 := s2.swap.cell 5
  simp only [List.getElem?_toArray, List.getElem?_cons_zero, List.getElem?_cons_succ] at c0 c1 c2 c3 c4 c5
  have HX := hid (xwrite_any s2 t _ (TIn.mono HL2.out t HIN.out) HOK.out)
  clear HW l2 p2 s2
  go_wp2_with fail
  refine HX.out.mono ?_
  rintro e w3 ⟨q, x, h3, rfl, l3, p3, s3⟩
  have hb := wboth l3 HP.out p3
  obtain rfl := hb.1
  have HL3 := hid (HL2.out.trans l3)
  have HR := hid (ref_both s3 hb)
  clear HX HP c0 c1 c2 c3 c4 c5 l3 p3 s3 hb
  go_wp2_with fail
  refine HR.out.mono ?_
  rintro e w4 ⟨rfl, s4⟩
  have HA := hid (awake_any s4)
  clear HR s4
  go_wp2_with fail
  refine HA.out.mono ?_
  rintro e w5 ⟨h5, rfl, l5, s5⟩
  have HL5 := hid (HL3.out.trans l5)
  have S5 := hid s5
  clear HA l5 s5
  go_wp2_with fail
  go_ret
  exact ⟨rfl, S5.out.archBelow HL5.out⟩
#print axioms writes_walk
end Go.Proofs.YteaabbghnfideaaDoor
