/-
  troupelaw02.c: a copy.
-/
import Derived.Test.YteaabbghnfideaaDoorTArg
import Derived.Test.YteaabbghnfideaaDoorTCopy
namespace Go.Proofs.YteaabbghnfideaaDoor
open Go.RowKit
set_option maxHeartbeats 2000000

section
variable {W w : World} {L : List HP} {h : Nat → Option Obj}
theorem c_any (S : Sat W w (arch h :: L)) (t : T) (vs : List Value) (hin : TIn h t vs) (hok : TOk t) :
    Calls Tryd.prog 16 #[.agg vs.toArray] w fun e w' => ∃ vs' h', e = .returned (.agg vs'.toArray) ∧ Le h h' ∧ TIn h' t vs' ∧ Sat W w' (arch h' :: L) := by
  obtain ⟨ia, ic, ra, rc, ba, bc, rfl, _⟩ := hin.vals
  have S2 := (S.alloc' (.cells (tVals t ia ic ra rc ba bc).toArray 25)).allocAt (k := w.heap.size + 1) (.cells #[.int .i64 0, .int .i64 0, .string ByteArray.empty, .slice none 0 0, .slice none 0 0, .slice none 0 0] 25) (by simp)
  have HC := hid (copy_t t hok W _ _ h (tVals t ia ic ra rc ba bc) S2.swap hin)
  unfold tVals at HC ⊢
  clear S S2 hin
  go_enter Tryd.func16, Tryd.ntmps16
  go_wp2_with fail
  refine HC.out.mono ?_
  rintro e w1 ⟨vs1, h1, rfl, l1, q1, s1⟩
  obtain ⟨ia1, ic1, ra1, rc1, ba1, bc1, rfl, _⟩ := q1.vals
  have L1 := hid l1
  have Q1 := hid q1
  have S1 := hid s1
  have f0 := s1.swap.free 0
  have f1 := s1.swap.free 1
  have f2 := s1.swap.free 2
  have f3 := s1.swap.free 3
  have f4 := s1.swap.free 4
  have f5 := s1.swap.free 5
  have e0 : w1.cell? ⟨w.heap.size + 1, 0, none⟩ = some (.int .i64 0) := s1.swap.cell 0
  have e1 : w1.cell? ⟨w.heap.size + 1, 1, none⟩ = some (.int .i64 0) := s1.swap.cell 1
  have e2 : w1.cell? ⟨w.heap.size + 1, 2, none⟩ = some (.string ByteArray.empty) := s1.swap.cell 2
  have e3 : w1.cell? ⟨w.heap.size + 1, 3, none⟩ = some (.slice none 0 0) := s1.swap.cell 3
  have e4 : w1.cell? ⟨w.heap.size + 1, 4, none⟩ = some (.slice none 0 0) := s1.swap.cell 4
  have e5 : w1.cell? ⟨w.heap.size + 1, 5, none⟩ = some (.slice none 0 0) := s1.swap.cell 5
  clear l1 q1 s1 HC
  unfold tVals
  go_wp2_with fail
  have s7 := ((((((S1.out.swap.set 0 (.int .i64 t.k)).set 1 (.int .i64 t.n)).set 2 (.string t.nm)).set 3 (.slice ia1 t.is.length ic1)).set 4 (.slice ra1 t.rs.length rc1)).set 5 (.slice ba1 t.bs.length bc1))
  refine bodyPost_ret (v := .agg #[.int .i64 t.k, .int .i64 t.n, .string t.nm, .slice ia1 t.is.length ic1, .slice ra1 t.rs.length rc1, .slice ba1 t.bs.length bc1]) (by simp [results, Tryd.results16, go_sem, e0, e1, e2, e3, e4, e5]) rfl ⟨tVals t ia1 ic1 ra1 rc1 ba1 bc1, h1, rfl, L1.out, Q1.out, s7.drop⟩
end
end Go.Proofs.YteaabbghnfideaaDoor
