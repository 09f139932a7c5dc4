/-
  TreeRights: the law's own walk.
-/
import Derived.Test.YteaabbghnfideaaDoorCAny
import Derived.Test.YteaabbghnfideaaDoorTArg
import Derived.Test.YteaabbghnfideaaDoorTCopy
import Derived.Test.YteaabbghnfideaaDoorRKind
import Derived.Test.YteaabbghnfideaaDoorTLook
import Derived.Test.YteaabbghnfideaaDoorAwake
namespace Go.Proofs.YteaabbghnfideaaDoor
open Go.RowKit
set_option maxHeartbeats 2000000

section
variable {W w : World} {L : List HP} {h : Nat → Option Obj}
theorem ErrOf.mono {h h' : Nat → Option Obj} {v : Value} {r : Option (Nat × Int)} (q : ErrOf h v r) (l : Le h h') : ErrOf h' v r := by
  cases r with
  | none => exact q
  | some nk => exact ErrIn.mono l q
theorem ref_of (S : Sat W w (arch h :: L)) {v : Value} {p : Option Addr} {t : T} (hv : ErrOf h v (rightOf t)) (hx : XOf h p (rightOf t)) :
    Calls Tryd.prog 14 #[v, .pointer p] w fun e w' => e = .returned (.bool true) ∧ Sat W w' (arch h :: L) := by
  cases hr : rightOf t with
  | none =>
    rw [hr] at hv hx
    have hv : v = .nilIface := hv
    have hx : p = none := hx
    subst hv; subst hx
    exact (ref_nil w).mono fun e w' ⟨he, hw⟩ => ⟨he, S.quiet hw⟩
  | some nk =>
    obtain ⟨n, k⟩ := nk
    rw [hr] at hv hx
    exact ref_err S hv hx (rightOf_kind hr) (by simp)
end
set_option maxRecDepth 100000 in
theorem rights_walk {W : World} {t : T} (cs : Array Value) (hg : TGood W cs.toList t) : Calls Tryd.prog 3 #[.agg cs] W fun e w' => e = .returned (.bool true) ∧ Below W.heap.size W w' := by
  obtain ⟨hin, hok⟩ := hg
  obtain ⟨ia, ic, ra, rc, ba, bc, hcs, _⟩ := id hin.vals
  obtain rfl : cs = (tVals t ia ic ra rc ba bc).toArray := by rw [← hcs]
  have S0 := hid ((Sat.startArch W).alloc (.cells (tVals t ia ic ra rc ba bc).toArray 25)).swap
  have HC := hid (c_any S0.out.drew t (tVals t ia ic ra rc ba bc) hin hok)
  have HIN := hid hin
  have HOK := hid hok
  have c0 := S0.out.swap.get
  have S0d := hid S0.out.drew
  unfold tVals at HC HIN c0 ⊢
  clear hcs hin hok S0
  go_enter Tryd.func3, Tryd.ntmps3
  go_wp2_with fail
  go_region_law (first
    | (go_simp
       go_at_call 16
       refine HC.out.mono ?_
       rintro e w1 ⟨vs1, h1, rfl, l1, q1, s1⟩
       have HL1 := hid l1
       have S1 := hid s1
       have HR := hid (right_t s1 t vs1 q1 HOK.out)
       have k10 : w1.cell? ⟨W.heap.size, 0, none⟩ = some (.int .i64 t.k) := s1.swap.cell 0
       have k11 : w1.cell? ⟨W.heap.size, 1, none⟩ = some (.int .i64 t.n) := s1.swap.cell 1
       have k12 : w1.cell? ⟨W.heap.size, 2, none⟩ = some (.string t.nm) := s1.swap.cell 2
       have k13 : w1.cell? ⟨W.heap.size, 3, none⟩ = some (.slice ia t.is.length ic) := s1.swap.cell 3
       have k14 : w1.cell? ⟨W.heap.size, 4, none⟩ = some (.slice ra t.rs.length rc) := s1.swap.cell 4
       have k15 : w1.cell? ⟨W.heap.size, 5, none⟩ = some (.slice ba t.bs.length bc) := s1.swap.cell 5
       clear l1 s1 q1)
    | (go_simp
       go_at_call 15
       refine HR.out.mono ?_
       rintro e w2 ⟨v2, h2, rfl, l2, e2, s2⟩
       have HL2 := hid (HL1.out.trans l2)
       have HE2 := hid e2
       have S2 := hid s2
       have HX := hid (xright_t s2 t _ (TIn.mono HL2.out t HIN.out) HOK.out)
       have k20 : w2.cell? ⟨W.heap.size, 0, none⟩ = some (.int .i64 t.k) := s2.swap.cell 0
       have k21 : w2.cell? ⟨W.heap.size, 1, none⟩ = some (.int .i64 t.n) := s2.swap.cell 1
       have k22 : w2.cell? ⟨W.heap.size, 2, none⟩ = some (.string t.nm) := s2.swap.cell 2
       have k23 : w2.cell? ⟨W.heap.size, 3, none⟩ = some (.slice ia t.is.length ic) := s2.swap.cell 3
       have k24 : w2.cell? ⟨W.heap.size, 4, none⟩ = some (.slice ra t.rs.length rc) := s2.swap.cell 4
       have k25 : w2.cell? ⟨W.heap.size, 5, none⟩ = some (.slice ba t.bs.length bc) := s2.swap.cell 5
       clear l2 s2 e2 S1)
    | (go_simp
       go_at_call 17
       refine HX.out.mono ?_
       rintro e w3 ⟨x3, h3, rfl, l3, e3, s3⟩
       have HL3 := hid (HL2.out.trans l3)
       have HF := hid (ref_of s3 (HE2.out.mono l3) e3)
       have S3 := hid s3
       clear l3 s3 e3 S2)
    | (go_simp
       go_at_call 14
       refine HF.out.mono ?_
       rintro e w4 ⟨rfl, s4⟩
       have S4 := hid s4
       clear s4 S3)
    | (go_simp
       go_at_call 18
       refine (awake_any S4.out).mono ?_
       rintro e w5 ⟨h5, rfl, l5, s5⟩
       have HL5 := hid (HL3.out.trans l5)
       have S5 := hid s5
       clear l5 s5 S4))
  all_goals go_wp2_with fail
  all_goals go_ret
  all_goals exact ⟨rfl, S5.out.archBelow HL5.out⟩
#print axioms rights_walk
end Go.Proofs.YteaabbghnfideaaDoor
