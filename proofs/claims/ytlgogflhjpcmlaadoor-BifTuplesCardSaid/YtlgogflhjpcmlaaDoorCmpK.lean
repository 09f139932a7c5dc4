/-
  tree.order; tree.Compare of terms of two kinds.
-/
import Derived.Test.YtlgogflhjpcmlaaDoorTRight
namespace Go.Proofs.YtlgogflhjpcmlaaDoor
open Go.RowKit
set_option maxHeartbeats 2000000

def ordB (a b : Int) : Int := if a < b then -1 else if b < a then 1 else 0
theorem order_any (a b : Int) (w : World) : Calls Tryd.prog 36 #[.int .i64 a, .int .i64 b] w fun e w' => e = .returned (.int .i64 (ordB a b)) ∧ w = w' := by
  rcases Int.lt_trichotomy a b with hab | hab | hab
  · have h1 : decide (a < b) = true := by simpa using hab
    have hr : ordB a b = -1 := by unfold ordB; rw [if_pos hab]
    rw [hr]
    go_enter Tryd.func36, Tryd.ntmps36
    go_wp2_with fail
    go_ret
    exact ⟨rfl, rfl⟩
  · subst hab
    have h1 : decide (a < a) = false := by simp
    have hr : ordB a a = 0 := by unfold ordB; rw [if_neg (by omega), if_neg (by omega)]
    rw [hr]
    go_enter Tryd.func36, Tryd.ntmps36
    go_wp2_with fail
    go_ret
    exact ⟨rfl, rfl⟩
  · have h1 : decide (a < b) = false := by simp; omega
    have h2 : decide (b < a) = true := by simpa using hab
    have hr : ordB a b = 1 := by unfold ordB; rw [if_neg (by omega), if_pos hab]
    rw [hr]
    go_enter Tryd.func36, Tryd.ntmps36
    go_wp2_with fail
    go_ret
    exact ⟨rfl, rfl⟩
section
variable {W w : World} {L : List HP}
set_option maxRecDepth 100000 in
theorem cmp_kinds (S : Sat W w L) (t u : T) (ia ra ba ia' ra' ba' : Option Addr) (ic rc bc ic' rc' bc' : Nat) (hk : t.k < u.k) :
    Calls Tryd.prog 27 #[.agg (tVals t ia ic ra rc ba bc).toArray, .agg (tVals u ia' ic' ra' rc' ba' bc').toArray] w fun e w' => e = .returned (.int .i64 (-1)) ∧ Sat W w' L := by
  have S1 := hid (((S.alloc' (.cells (tVals t ia ic ra rc ba bc).toArray 35)).alloc' (.cells (tVals u ia' ic' ra' rc' ba' bc').toArray 35)).allocAt (k := w.heap.size + 2) (.cells ((tVals t ia ic ra rc ba bc) ++ (tVals u ia' ic' ra' rc' ba' bc')).toArray 75) (by simp))
  have HK := hid hk
  have hord := fun w => order_any t.k u.k w
  have hr : ordB t.k u.k = -1 := by unfold ordB; rw [if_pos hk]
  rw [hr] at hord
  clear S hk hr
  unfold tVals at S1 ⊢
  simp only [List.cons_append, List.nil_append] at S1
  go_enter Tryd.func27, Tryd.ntmps27
  go_wp2_with fail
  go_loopw [4, 5, 6, 7, 8, 9, 10] (fun a4 a5 _ _ _ _ _ wr => a5 = .slice (some ⟨w.heap.size + 2, 0, none⟩) 1 1 ∧ Hid (Sat W wr (blk (w.heap.size + 2) (.cells #[.int .i64 t.k, .int .i64 t.n, .string t.nm, .slice ia t.is.length ic, .slice ra t.rs.length rc, .slice ba t.bs.length bc, .int .i64 u.k, .int .i64 u.n, .string u.nm, .slice ia' u.is.length ic', .slice ra' u.rs.length rc', .slice ba' u.bs.length bc'] 75 (0, 0)) :: L))) (fun _ _ _ _ _ _ _ _ => 0)
  case atStart => exact ⟨rfl, S1⟩
  case round =>
    obtain ⟨rfl, S⟩ := hrel
    clear S1
    have hcs := fun i => S.out.cell i
    have c0 := hcs 0
    have c1 := hcs 1
    have c2 := hcs 2
    have c3 := hcs 3
    have c4 := hcs 4
    have c5 := hcs 5
    have c6 := hcs 6
    have c7 := hcs 7
    have c8 := hcs 8
    have c9 := hcs 9
    have c10 := hcs 10
    have c11 := hcs 11
    simp only [List.getElem?_toArray, List.getElem?_cons_zero, List.getElem?_cons_succ] at c0 c1 c2 c3 c4 c5 c6 c7 c8 c9 c10 c11
    clear hcs
    have hlt := S.out.lt
    have hwz : IntKind.i64.wrap 0 = 0 := rfl
    go_wp2_with fail
    go_region_law (fail)
    all_goals go_wp2_with fail
    all_goals refine (hord _).mono ?_
    all_goals rintro e w3 ⟨rfl, rfl⟩
    all_goals go_wp2_with fail
    all_goals go_ret
    all_goals exact ⟨rfl, (S.out.drop.drew.alloc' _).alloc' _⟩
end
end Go.Proofs.YtlgogflhjpcmlaaDoor
