/-
  THE BOX: the contracts of Next (at the end), Peek and Take.
-/
import Derived.Test.YtmfjeplfpljogaaBoxB
import Derived.Test.YtmfjeplfpljogaaQTail
namespace Go.Proofs.Ytmfjeplfpljogaa
open Go.RowKit
set_option maxHeartbeats 400000

section
variable {W w : World} {L : List HP} {b : Nat} {xs : List Int} {at_ m : Nat}

theorem next_no (s : Sat W w (box b xs at_ m :: L)) (h : xs.length ≤ at_) : Calls Try.prog 12 #[.pointer (some ⟨b, 0, none⟩)] w fun e w' =>
    e = .returned (.bool false) ∧ ∃ n, w' = w.drewN n := by
  obtain ⟨r, s', o, h1, h2, h3⟩ := box_open s
  have hx : xs.length = r.ys.length - r.first := by rw [← h1, List.length_drop]
  obtain ⟨c0, c1, c2, fz, le, lm, lc⟩ := id o
  have hlt : ¬ (at_ : Int) < r.ys.length - r.first := by omega
  have hd : decide ((at_ : Int) < r.ys.length - r.first) = false := by simpa using hlt
  clear hx h1 fz
  go_enter Try.func12, Try.ntmps12
  go_wp2
  go_quiet ((go_at_call 17; exact Calls.quiet_of (len_any (o.drewN _))))
  go_wp2
  have o1 := o.drewN nq
  revert o1
  generalize hw1 : w.drewN nq = w1
  intro o1
  have HW := hid hw1
  have c2 := o1.c2
  clear hw1
  go_quiet ((go_at_call 17; exact Calls.quiet_of (len_any (o1.drewN _))))
  go_wp2
  go_ret
  exact ⟨rfl, _, by rw [← HW.out, World.drewN_drewN]⟩

theorem peek_no (s : Sat W w (box b xs at_ m :: L)) (h : xs.length ≤ at_) : Calls Try.prog 10 #[.pointer (some ⟨b, 0, none⟩)] w fun e w' =>
    e = .returned (.tuple #[.int .u64 0, .bool false]) ∧ ∃ n, w' = w.drewN n := by
  obtain ⟨r, s', o, h1, h2, h3⟩ := box_open s
  have hx : xs.length = r.ys.length - r.first := by rw [← h1, List.length_drop]
  obtain ⟨c0, c1, c2, fz, le, lm, lc⟩ := id o
  by_cases hy : r.ys.length = r.first
  · have HY := hid hy
    have hge : (0 : Int) ≤ at_ := by omega
    clear hx h1 fz hy c0 c1
    go_enter Try.func10, Try.ntmps10
    go_wp2_with (go_at_call 21; refine (left_no o HY.out).mono ?_; rintro e w' ⟨rfl, m, rfl⟩)
    go_ret2
    exact ⟨rfl, _, rfl⟩
  · have hlt : r.first < r.ys.length := by omega
    have hge : ((r.ys.length - r.first : Nat) : Int) ≤ at_ := by omega
    obtain ⟨g, off, ha, _⟩ := s'.swap.rowCells (by omega)
    have HA := hid ha
    clear hx h1 fz hy ha c0 c1
    go_enter Try.func10, Try.ntmps10
    go_wp2_with (go_at_call 21; refine (left_yes o g off HA.out hlt).mono ?_; rintro e w' ⟨rfl, m, rfl⟩)
    go_ret2
    exact ⟨rfl, _, rfl⟩

theorem peek_yes (s : Sat W w (box b xs at_ m :: L)) (h : at_ < xs.length) : Calls Try.prog 10 #[.pointer (some ⟨b, 0, none⟩)] w fun e w' =>
    e = .returned (.tuple #[.int .u64 (xs.getD at_ 0), .bool true]) ∧ ∃ n, w' = w.drewN n := by
  obtain ⟨r, s', o, h1, h2, h3⟩ := box_open s
  have hx : xs.length = r.ys.length - r.first := by rw [← h1, List.length_drop]
  obtain ⟨c0, c1, c2, fz, le, lm, lc⟩ := id o
  have hlt : r.first < r.ys.length := by omega
  have hge : (at_ : Int) < ((r.ys.length - r.first : Nat) : Int) := by omega
  obtain ⟨g, off, ha, hc, _⟩ := s'.swap.rowCells (by omega)
  have cell : w.cell? ⟨g, off + r.first + at_, none⟩ = some (.int .u64 (xs.getD at_ 0)) := by
    rw [Nat.add_assoc, hc _ (by omega), ← h1, u64s, List.getElem?_map, List.getD_eq_getElem?_getD, List.getElem?_drop]
    rw [List.getElem?_eq_getElem (by omega)]
    simp
  obtain ⟨x, HX⟩ : ∃ x, Hid (xs.getD at_ 0 = x) := ⟨_, rfl⟩
  rw [HX.out] at cell ⊢
  have HA := hid ha
  clear hx h1 fz ha hc c0 c1
  go_enter Try.func10, Try.ntmps10
  go_wp2_with (go_at_call 21; refine (left_yes o g off HA.out hlt).mono ?_; rintro e w' ⟨rfl, m, rfl⟩)
  go_ret2
  exact ⟨rfl, _, rfl⟩

theorem take_no (s : Sat W w (box b xs at_ m :: L)) (h : xs.length ≤ at_) : Calls Try.prog 11 #[.pointer (some ⟨b, 0, none⟩)] w fun e w' =>
    e = .returned (.tuple #[.int .u64 0, .bool false]) ∧ ∃ n, w' = w.drewN n := by
  go_enter Try.func11, Try.ntmps11
  go_wp2_with (go_at_call 10; refine (peek_no s h).mono ?_; rintro e w' ⟨rfl, m, rfl⟩)
  go_ret2
  exact ⟨rfl, _, rfl⟩
end
end Go.Proofs.Ytmfjeplfpljogaa
