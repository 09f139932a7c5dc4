/-
  THE BOX: a new one; the fixed example (awake) answers true.
-/
import Derived.Test.YtmfjeplfpljogaaBoxG
namespace Go.Proofs.Ytmfjeplfpljogaa
open Go.RowKit
set_option maxHeartbeats 1000000

theorem box_new {W w : World} {L : List HP} (s : Sat W w L) : Sat W (w.alloc (.cells #[.slice none 0 0, .int .i64 0, .int .i64 0] 25)) (box w.heap.size [] 0 0 :: L) := by
  refine Sat.mkbun (α := BoxR) ⟨none, 0, 0, []⟩ ⟨Nat.le_refl _, rfl, Nat.le_refl _, Nat.le_refl _⟩ ?_
  exact Sat.swap ((s.alloc _).rowNil)

theorem awake_any {W w : World} {L : List HP} (s : Sat W w L) : Calls Try.prog 16 #[] w fun e w' => e = .returned (.bool true) ∧ Sat W w' L := by
  have HS := hid s
  clear s
  go_enter Try.func16, Try.ntmps16
  go_wp2_with fail
  have s1 := box_new HS.out
  refine (push_box 5 s1 (by omega)).mono ?_
  rintro e w1 ⟨rfl, s2⟩
  clear s1
  go_wp2_with fail
  refine (push_box 6 s2 (by omega)).mono ?_
  rintro e w2 ⟨rfl, s3⟩
  clear s2
  go_wp2_with fail
  refine (push_box 7 s3 (by omega)).mono ?_
  rintro e w3 ⟨rfl, s4⟩
  clear s3
  go_wp2_with fail
  refine (next_yes s4 (by simp)).mono ?_
  rintro e w4 ⟨rfl, s5⟩
  clear s4
  go_wp2_with fail
  refine (take_yes s5 (by simp)).mono ?_
  rintro e w5 ⟨rfl, s6⟩
  clear s5
  have s6' : Sat W w5 (box w.heap.size [5, 7] 0 3 :: L) := s6
  have S6 := hid s6'
  clear s6 s6'
  go_wp2_with fail
  refine (words_box S6.out (by omega)).mono ?_
  rintro e w6 ⟨a', c', rfl, s7⟩
  have S7 := hid s7
  clear s7 S6
  go_wp2_with fail
  refine (sameWords_any _ _ _ _ _ _ _ [5, 7] [5, 7] rfl rfl ((S7.out.alloc' _).rowRd) (Rd.of_cells ?_) (by simp) (by simp)).mono ?_
  · intro j hj
    have := (S7.out.alloc (.cells #[.int .u64 5, .int .u64 7] 26)).cell j
    rw [Nat.zero_add]
    rw [this]; simp [u64s]
  rintro e w7 ⟨rfl, k, rfl⟩
  go_wp2_with fail
  refine (at_box ((S7.out.alloc' _).drewN _).drop).mono ?_
  rintro e w8 ⟨rfl, k2, rfl⟩
  go_wp2_with fail
  go_ret
  exact ⟨rfl, ((S7.out.alloc' _).drewN _).drop.drop⟩
end Go.Proofs.Ytmfjeplfpljogaa
