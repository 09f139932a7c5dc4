/-
  THE SUPERVISOR: end, Up, Tick.
-/
import Derived.Test.YtfhjoidciaidlaaSupC
import Derived.Laws.EntriesVeiled
namespace Go.Proofs.Ytfhjoidciaidlaa
open Go.RowKit
set_option maxHeartbeats 400000

theorem ThenIs.func {h : Nat → Option Obj} {p : Nat} : ∀ {t : Then} {v : Value}, ThenIs h p t v → t ≠ .no → ∃ g xs ys, v = .func g xs ys
  | .no, _, _, n => absurd rfl n
  | .exit, _, q, _ => ⟨_, _, _, q⟩
  | .all, _, ⟨_, e, _⟩, _ => ⟨_, _, _, e⟩
  | .rest _, _, ⟨_, _, e, _⟩, _ => ⟨_, _, _, e⟩
section
variable {W w : World} {L : List HP} {h : Nat → Option Obj} {p : Nat} {s : Su}
def Su.to_end (s : Su) (rl : List Nat) (th : Then) : Su := { s with state := 2, rl := rl, th := th }
theorem end_sup {a : Option Addr} {n c : Nat} {rl : List Nat} {th : Then} {tv : Value} (S : Sat W w (row 3 1 a n c (i64s (ints rl.reverse)) :: sup p h s :: arch h :: L)) (hn : n = rl.length) (hv : ThenIs h p th tv) (F : (s.to_end rl th).fit) (now : Int) :
    Calls Try.prog 42 #[.pointer (some ⟨p, 0, none⟩), .slice a n c, tv, .int .i64 now] w fun e w' => ∃ a n c, e = .returned (.slice a n c) ∧ n = ((s.to_end rl th).next now).2.length ∧ Sat W w' (row 46 2 a n c (acVals ((s.to_end rl th).next now).2) :: sup p h ((s.to_end rl th).next now).1 :: arch h :: L) := by
  subst hn
  obtain ⟨fg, fxs, fys, rfl⟩ := hv.func F.th
  obtain ⟨⟨ka, kc, na, nc, la, lc, tv'⟩, ht, s'⟩ := sup_open S.swap
  have s1 := (s'.rot4.drop.rot4)
  have c5 : w.cell? ⟨p, 5, none⟩ = some (.int .i64 s.state) := s'.cell 5
  have f5 := s'.free 5
  have s2 := s'.set 5 (.int .i64 2)
  have c7 : World.cell? _ _ = some (.slice la s.rl.length lc) := s2.cell 7
  have f7 := s2.free 7
  have s3 := s2.set 7 (.slice a rl.length c)
  have c11 : World.cell? _ _ = some tv' := s3.cell 11
  have f11 := s3.free 11
  have s4 := s3.set 11 (.func fg fxs fys)
  have s5 : Sat W _ (sup p h (s.to_end rl th) :: arch h :: L) := Sat.mkbun (α := SR) ⟨ka, kc, na, nc, a, c, .func fg fxs fys⟩ hv (s4.rot4.drop.rot4.unrot4)
  have S5 := hid s5
  have HF := hid F
  clear s' s1 s2 s3 s4 s5 S hv F ht
  go_enter Try.func42, Try.ntmps42
  go_wp2_with fail
  refine (next_sup S5.out HF.out now).mono ?_
  rintro e w1 ⟨a, n, c, rfl, hn, s1⟩
  have HN := hid hn
  have S3 := hid s1
  clear s1 S5 hn c5 c7 c11 f5 f7 f11
  go_wp2_with fail
  go_ret
  exact ⟨_, _, _, rfl, HN.out, S3.out⟩
theorem up_sup (S : Sat W w (sup p h s :: L)) (hk : s.kids.length ≤ 10000) : Calls Try.prog 23 #[.pointer (some ⟨p, 0, none⟩)] w fun e w' => ∃ a n c, e = .returned (.slice a n c) ∧ n = (ups s.kids 0).length ∧ Sat W w' (row 3 1 a n c (i64s (ints (ups s.kids 0))) :: sup p h s :: L) := by
  have S1 := hid S
  clear S
  go_enter Try.func23, Try.ntmps23
  go_wp2_with fail
  refine (ups_sup S1.out 0 hk).mono ?_
  rintro e w1 ⟨a, n, c, rfl, hn, s1⟩
  have HN := hid hn
  have S3 := hid s1
  clear s1 S1 hn
  go_wp2_with fail
  go_ret
  exact ⟨_, _, _, rfl, HN.out, S3.out⟩
def Su.tick (s : Su) (now : Int) : Su × List Ac := if s.state ≠ 2 ∨ s.killed = true ∨ inTime now s.since (timeAt s.kids s.stop.toNat + 1) = true then (s, []) else ({ s with killed := true }, [⟨3, s.stop⟩])
theorem tick_sup (S : Sat W w (sup p h s :: L)) (now : Int) (hst : s.state = 2 → s.killed = false → ∃ (i : Nat) (k : Kid), s.stop = i ∧ s.kids[i]? = some k ∧ -1 ≤ k.c.t ∧ k.c.t ≤ 10000) (hk : s.kids.length ≤ 10000) :
    Calls Try.prog 24 #[.pointer (some ⟨p, 0, none⟩), .int .i64 now] w fun e w' => ∃ a n c, e = .returned (.slice a n c) ∧ n = (s.tick now).2.length ∧ Sat W w' (row 46 2 a n c (acVals (s.tick now).2) :: sup p h (s.tick now).1 :: L) := by
  obtain ⟨⟨ka, kc, na, nc, la, lc, tv⟩, ht, s'⟩ := sup_open S
  have c5 : w.cell? ⟨p, 5, none⟩ = some (.int .i64 s.state) := s'.cell 5
  have c10 : w.cell? ⟨p, 10, none⟩ = some (.bool s.killed) := s'.cell 10
  by_cases h2 : s.state = 2
  · by_cases hkl : s.killed = true
    · have hr : s.tick now = (s, []) := by simp [Su.tick, hkl]
      rw [hr]
      rw [h2] at c5
      rw [hkl] at c10
      have S1 := hid S
      clear S s' ht
      go_enter Try.func24, Try.ntmps24
      go_wp2_with fail
      go_quiet (fail)
      go_wp2_with fail
      go_ret
      exact ⟨_, _, _, rfl, rfl, (S1.out.drewN _).rowNil⟩
    · have hkl' : s.killed = false := by simpa using hkl
      obtain ⟨i, k, hs, hx, hb1, hb2⟩ := hst h2 hkl'
      obtain ⟨kg, ko, hka, hkc, _⟩ := (s'.sel [1]).rowCells (by have := List.getElem?_eq_some_iff.1 hx; obtain ⟨q, _⟩ := this; omega)
      have hi : i < s.kids.length := by have := List.getElem?_eq_some_iff.1 hx; exact this.1
      have e2 := hkc (i * 5 + 2) (by omega)
      rw [kidVals, flat_get lenKid hx (by omega)] at e2
      simp only [Kid.vals, List.getElem?_cons_succ, List.getElem?_cons_zero] at e2
      rw [← Nat.add_assoc] at e2
      simp only at hka
      subst hka
      have c4 : w.cell? ⟨p, 4, none⟩ = some (.slice (some ⟨kg, ko, none⟩) s.kids.length kc) := s'.cell 4
      have c8 : w.cell? ⟨p, 8, none⟩ = some (.int .i64 s.stop) := s'.cell 8
      have c9 : w.cell? ⟨p, 9, none⟩ = some (.int .i64 s.since) := s'.cell 9
      rw [hs] at c8
      rw [h2] at c5
      rw [hkl'] at c10
      have hta : timeAt s.kids s.stop.toNat = k.c.t := by simp [timeAt, hs, hx]
      obtain ⟨b, HB⟩ : ∃ b, Hid (inTime now s.since (k.c.t + 1) = b) := ⟨_, rfl⟩
      have HS := hid hs
      have HTA := hid hta
      have S1 := hid S
      have f10 := s'.free 10
      have S2 := hid s'
      have HT := hid ht
      clear S s' ht hkc hx hs hta
      have hbl : ∀ w' : World, Calls Try.prog 47 #[.int .i64 now, .int .i64 s.since, .int .i64 (k.c.t + 1)] w' fun e w'' => e = .returned (.bool b) ∧ w'' = w' := fun w' => (below_any now s.since (k.c.t + 1) w').mono (by rintro e w'' ⟨rfl, rfl⟩; exact ⟨by rw [HB.out], rfl⟩)
      have HBL := hid hbl
      clear hbl
      cases b with
      | true =>
        have hr : s.tick now = (s, []) := by simp [Su.tick, HTA.out, HB.out]
        rw [hr]
        go_enter Try.func24, Try.ntmps24
        go_wp2_with fail
        go_quiet ((go_at_call 47; exact Calls.quiet_of_same (HBL.out _)))
        go_wp2_with fail
        go_ret
        exact ⟨_, _, _, rfl, rfl, (S1.out.drewN _).rowNil⟩
      | false =>
        have hr : s.tick now = ({ s with killed := true }, [⟨3, i⟩]) := by unfold Su.tick; rw [HTA.out, HB.out]; simp [h2, hkl', HS.out]
        rw [hr]
        go_enter Try.func24, Try.ntmps24
        go_wp2_with fail
        go_quiet ((go_at_call 47; exact Calls.quiet_of_same (HBL.out _)))
        go_wp2_with fail
        go_ret
        have s7 := ((S2.out.drewN nq).set 10 (.bool true)).allocAt (k := w.heap.size) (.cells #[.int .i64 3, .int .i64 i] 46) (by simp)
        have s8 := Sat.rowMk (size := 2) (n := 1) (c := 1) (xs := acVals [⟨3, i⟩]) s7 (off := 0) rfl (by omega) (by unfold maxLen; omega) (by simp) rfl
        have s9 := s8.unrot5
        refine ⟨_, _, _, rfl, rfl, Sat.swap (Sat.mkbun (α := SR) ⟨some ⟨kg, ko, none⟩, kc, na, nc, la, lc, tv⟩ HT.out ?_)⟩
        exact s9
  · have hr : s.tick now = (s, []) := by simp [Su.tick, h2]
    rw [hr]
    have hd : (s.state != 2) = true := by simpa using h2
    have S1 := hid S
    clear S s' ht
    go_enter Try.func24, Try.ntmps24
    go_wp2_with fail
    go_quiet (fail)
    go_wp2_with fail
    go_ret
    exact ⟨_, _, _, rfl, rfl, (S1.out.drewN _).rowNil⟩
end
end Go.Proofs.Ytfhjoidciaidlaa
