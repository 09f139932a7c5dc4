/-
  THE BOX (package mbox): what a box holds, in the small separation logic, and a contract for each of its methods.
-/
import Derived.Test.YtmfjeplfpljogaaProg
import Derived.Test.YtmfjeplfpljogaaRow
import Derived.StillTailTactics
namespace Go.Proofs.Ytmfjeplfpljogaa
open Go.RowKit

def u64s (l : List Int) : List Value := l.map (Value.int .u64)
theorem length_u64s (l : List Int) : (u64s l).length = l.length := by simp [u64s]

structure BoxR where
  a : Option Addr
  c : Nat
  first : Nat
  ys : List Int

/-- A box at block b: the messages xs, the place; its array is no longer than m. -/
def box (b : Nat) (xs : List Int) (at_ m : Nat) : HP := bun (fun r : BoxR => r.first ≤ r.ys.length ∧ r.ys.drop r.first = xs ∧ r.ys.length ≤ m ∧ at_ ≤ xs.length)
  fun r => [blk b (.cells #[.slice r.a r.ys.length r.c, .int .i64 (r.first : Nat), .int .i64 (at_ : Nat)] 25 (0, 0)), row 26 1 r.a r.ys.length r.c (u64s r.ys)]

/-- What the walks are told of a box. -/
structure Sees (w : World) (b : Nat) (r : BoxR) (at_ : Int) : Prop where
  c0 : w.cell? ⟨b, 0, none⟩ = some (.slice r.a r.ys.length r.c)
  c1 : w.cell? ⟨b, 1, none⟩ = some (.int .i64 (r.first : Nat))
  c2 : w.cell? ⟨b, 2, none⟩ = some (.int .i64 at_)
  fz : ∀ i, w.frozen? ⟨b, i, none⟩ = false
  le : r.first ≤ r.ys.length
  lm : r.ys.length ≤ 9223372036854775807
  lc : r.ys.length ≤ r.c
theorem Sees.drewN {w : World} {b : Nat} {r : BoxR} {at_ : Int} (s : Sees w b r at_) (n : Nat) : Sees (w.drewN n) b r at_ := ⟨s.c0, s.c1, s.c2, s.fz, s.le, s.lm, s.lc⟩

theorem box_open {W w : World} {L : List HP} {b : Nat} {xs : List Int} {at_ m : Nat} (s : Sat W w (box b xs at_ m :: L)) :
    ∃ r : BoxR, Sat W w (blk b (.cells #[.slice r.a r.ys.length r.c, .int .i64 (r.first : Nat), .int .i64 (at_ : Nat)] 25 (0, 0)) :: row 26 1 r.a r.ys.length r.c (u64s r.ys) :: L) ∧
      Sees w b r at_ ∧ r.ys.drop r.first = xs ∧ r.ys.length ≤ m ∧ at_ ≤ xs.length := by
  obtain ⟨r, ⟨h1, h2, h3, h4⟩, s'⟩ := s.unbun
  have hl := s'.swap.rowLen
  refine ⟨r, s', ⟨?_, ?_, ?_, fun i => s'.free i, h1, ?_, hl.2.1⟩, h2, h3, h4⟩
  · rw [s'.cell]; rfl
  · rw [s'.cell]; rfl
  · rw [s'.cell]; rfl
  · have := hl.2; unfold maxLen at this; omega

section
variable {w : World} {b : Nat} {r : BoxR} {at_ : Int}
set_option maxHeartbeats 400000

theorem len_any (s : Sees w b r at_) : Calls Try.prog 17 #[.pointer (some ⟨b, 0, none⟩)] w fun e w' => e = .returned (.int .i64 ((r.ys.length : Int) - r.first)) ∧ ∃ m, w' = w.drewN m := by
  obtain ⟨c0, c1, c2, fz, le, lm, lc⟩ := s
  go_enter Try.func17, Try.ntmps17
  go_wp2
  go_quiet (fail)
  go_wp2
  go_ret
  exact ⟨rfl, _, rfl⟩

theorem at_any (s : Sees w b r at_) : Calls Try.prog 15 #[.pointer (some ⟨b, 0, none⟩)] w fun e w' => e = .returned (.int .i64 at_) ∧ ∃ m, w' = w.drewN m := by
  obtain ⟨c0, c1, c2, fz, le, lm, lc⟩ := s
  go_enter Try.func15, Try.ntmps15
  go_wp2
  go_ret
  exact ⟨rfl, 0, rfl⟩

theorem first_any (s : Sees w b r at_) : Calls Try.prog 20 #[.pointer (some ⟨b, 0, none⟩)] w fun e w' => e = .returned (.tuple #[]) ∧ w' = w.setCell ⟨b, 2, none⟩ (.int .i64 (0 : Nat)) := by
  obtain ⟨c0, c1, c2, fz, le, lm, lc⟩ := s
  have f2 := fz 2
  go_enter Try.func20, Try.ntmps20
  go_wp2
  go_end0
  exact ⟨rfl, rfl⟩

/-- what left hands out: nothing, or the rest of the array -/
theorem left_no (s : Sees w b r at_) (h : r.ys.length = r.first) : Calls Try.prog 21 #[.pointer (some ⟨b, 0, none⟩)] w fun e w' => e = .returned (.slice r.a 0 0) ∧ ∃ m, w' = w.drewN m := by
  obtain ⟨c0, c1, c2, fz, le, lm, lc⟩ := s
  rw [h] at c0 lm lc
  clear fz le h c2
  go_enter Try.func21, Try.ntmps21
  go_wp2
  go_quiet (fail)
  go_wp2
  go_ret
  exact ⟨rfl, _, rfl⟩
theorem left_yes (s : Sees w b r at_) (g off : Nat) (ha : r.a = some ⟨g, off, none⟩) (h : r.first < r.ys.length) : Calls Try.prog 21 #[.pointer (some ⟨b, 0, none⟩)] w fun e w' => e = .returned (.slice (some ⟨g, off + r.first, none⟩) (r.ys.length - r.first) (r.ys.length - r.first)) ∧ ∃ m, w' = w.drewN m := by
  obtain ⟨c0, c1, c2, fz, le, lm, lc⟩ := s
  rw [ha] at c0
  clear fz ha c2
  go_enter Try.func21, Try.ntmps21
  go_wp2
  go_quiet (fail)
  go_wp2
  go_ret
  exact ⟨rfl, _, rfl⟩

theorem Sees.at2 (s : Sees w b r at_) (x : Int) : Sees (w.setCell ⟨b, 2, none⟩ (.int .i64 x)) b r x := by
  obtain ⟨c0, c1, c2, fz, le, lm, lc⟩ := s
  exact ⟨by rw [World.cell?_setCell_other _ _ _ _ (by simp)]; exact c0, by rw [World.cell?_setCell_other _ _ _ _ (by simp)]; exact c1, World.cell?_setCell_same _ _ _ c2, fun i => by rw [World.frozen?_setCell]; exact fz i, le, lm, lc⟩
end
end Go.Proofs.Ytmfjeplfpljogaa
