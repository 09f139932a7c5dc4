/-
  THE BOX: the contracts of Next, Peek and Take.
-/
import Derived.Test.YtmfjeplfpljogaaBox
namespace Go.Proofs.Ytmfjeplfpljogaa
open Go.RowKit
set_option maxHeartbeats 400000

section
variable {W w : World} {L : List HP} {b : Nat} {xs : List Int} {at_ m : Nat}

theorem len_box (s : Sat W w (box b xs at_ m :: L)) : Calls Try.prog 17 #[.pointer (some ⟨b, 0, none⟩)] w fun e w' => e = .returned (.int .i64 (xs.length : Nat)) ∧ ∃ m, w' = w.drewN m := by
  obtain ⟨r, s', o, h1, h2, h3⟩ := box_open s
  refine (len_any o).mono fun e w' ⟨he, hw⟩ => ⟨?_, hw⟩
  rw [he, ← h1, List.length_drop]
  have := o.le
  congr 2; omega
theorem at_box (s : Sat W w (box b xs at_ m :: L)) : Calls Try.prog 15 #[.pointer (some ⟨b, 0, none⟩)] w fun e w' => e = .returned (.int .i64 (at_ : Nat)) ∧ ∃ m, w' = w.drewN m := by
  obtain ⟨r, s', o, h1, h2, h3⟩ := box_open s
  exact at_any o
theorem first_box (s : Sat W w (box b xs at_ m :: L)) : Calls Try.prog 20 #[.pointer (some ⟨b, 0, none⟩)] w fun e w' => e = .returned (.tuple #[]) ∧ Sat W w' (box b xs 0 m :: L) := by
  obtain ⟨r, s', o, h1, h2, h3⟩ := box_open s
  refine (first_any o).mono ?_
  rintro e w' ⟨he, rfl⟩
  exact ⟨he, (s'.set 2 (.int .i64 (0 : Nat))).mkbun r ⟨o.le, h1, h2, Nat.zero_le _⟩⟩

theorem next_yes (s : Sat W w (box b xs at_ m :: L)) (h : at_ < xs.length) : Calls Try.prog 12 #[.pointer (some ⟨b, 0, none⟩)] w fun e w' =>
    e = .returned (.bool (decide (at_ + 1 < xs.length))) ∧ Sat W w' (box b xs (at_ + 1) m :: L) := by
  obtain ⟨r, s', o, h1, h2, h3⟩ := box_open s
  have hx : xs.length = r.ys.length - r.first := by rw [← h1, List.length_drop]
  obtain ⟨c0, c1, c2, fz, le, lm, lc⟩ := id o
  have hlt : (at_ : Int) < r.ys.length - r.first := by omega
  have hd : decide ((at_ : Int) < r.ys.length - r.first) = true := by simpa using hlt
  have f2 := fz 2
  have HX := hid hx; clear hx
  have H1 := hid h1; clear h1
  go_enter Try.func12, Try.ntmps12
  go_wp2
  go_quiet ((go_at_call 17; exact Calls.quiet_of (len_any (o.drewN _))))
  go_wp2
  go_quiet ((go_at_call 17; exact Calls.quiet_of (len_any ((Sees.at2 (o.drewN _) _).drewN _))))
  go_wp2
  go_ret
  refine ⟨?_, ?_⟩
  · show Ending.returned (.bool (decide ((at_ : Int) + 1 < r.ys.length - r.first))) = _
    rw [HX.out]
    congr 2
    rw [decide_eq_decide]
    omega
  · exact ((s'.drewN _).set 2 (.int .i64 ((at_ + 1 : Nat) : Int))).drewN _ |>.mkbun r ⟨le, H1.out, h2, by omega⟩
end
end Go.Proofs.Ytmfjeplfpljogaa
