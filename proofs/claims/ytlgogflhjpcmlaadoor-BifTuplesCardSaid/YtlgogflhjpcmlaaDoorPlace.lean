/-
  The statements' Place: a number's place among so many.
-/
import Derived.Test.YtlgogflhjpcmlaaDoorProg
import Derived.Test.YtlgogflhjpcmlaaDoorQTail
import Derived.WalkKit
import Derived.Deep.LoopGhost
namespace Go.Proofs.YtlgogflhjpcmlaaDoor
open Go.RowKit
set_option maxHeartbeats 2000000

theorem tmod_emod (v n : Int) (h0 : 0 < n) : v % n = if v.tmod n < 0 then v.tmod n + n else v.tmod n := by
  have h1 : v % n = v.tmod n % n := by
    have := Int.mul_tdiv_add_tmod v n
    conv => lhs; rw [← this]
    rw [Int.add_comm, Int.add_mul_emod_self_left]
  have h2 := Int.tmod_lt_of_pos v h0
  have h3 : -n < v.tmod n := by
    have := Int.tmod_lt_of_pos (-v) h0
    rw [Int.neg_tmod] at this
    omega
  rw [h1]
  split
  · rw [← Int.add_emod_right, Int.emod_eq_of_lt (by omega) (by omega)]
  · exact Int.emod_eq_of_lt (by omega) h2
theorem place_any (v n : Int) (w : World) (h0 : 0 < n) (hn : n ≤ 4611686018427387904) :
    Calls Tryd.prog 24 #[.int .i64 v, .int .i64 n] w fun e w' => e = .returned (.int .i64 (v % n)) ∧ w = w' := by
  have hz : (n == 0) = false := by simp; omega
  have hm := tmod_emod v n h0
  have h3 : -n < v.tmod n := by
    have := Int.tmod_lt_of_pos (-v) h0
    rw [Int.neg_tmod] at this
    omega
  rw [hm]
  clear hm
  by_cases hlt : v.tmod n < 0
  · rw [if_pos hlt]
    go_enter Tryd.func24, Tryd.ntmps24
    go_wp2
    go_ret
    exact ⟨rfl, rfl⟩
  · rw [if_neg hlt]
    go_enter Tryd.func24, Tryd.ntmps24
    go_wp2
    go_ret
    exact ⟨rfl, rfl⟩
end Go.Proofs.YtlgogflhjpcmlaaDoor
