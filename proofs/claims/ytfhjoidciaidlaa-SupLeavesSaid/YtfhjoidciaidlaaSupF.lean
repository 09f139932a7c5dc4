/-
  THE SUPERVISOR: Down of one that is up.
-/
import Derived.Test.YtfhjoidciaidlaaSupE
import Derived.Deep.DeepCutAuto
import Derived.Deep.CutBlock
namespace Go.Proofs.Ytfhjoidciaidlaa
open Go.RowKit
set_option maxHeartbeats 400000

theorem modify_set {α : Type} {ks : List α} {i : Nat} {k : α} (h : ks[i]? = some k) (f : α → α) : ks.modify i f = ks.set i (f k) := by
  refine List.ext_getElem? fun j => ?_
  rw [List.getElem?_modify, List.getElem?_set]
  have hl := List.getElem?_eq_some_iff.1 h
  obtain ⟨hl, _⟩ := hl
  by_cases q : i = j
  · subst q
    rw [h]; simp [hl]
  · simp [q]
section
variable {W w : World} {L : List HP} {h : Nat → Option Obj} {p : Nat} {s : Su}
theorem fall_step {A : HP} {kg ko n kc j : Nat} {ks : List Kid} {c : Chd} {gn : Bool} (S : Sat W w (A :: row 69 5 (some ⟨kg, ko, none⟩) n kc (kidVals ks) :: L)) (hx : ks[j]? = some ⟨c, true, gn⟩) (hn : n = ks.length) :
    Sat W (w.setCell ⟨kg, ko + j * 5 + 3, none⟩ (.bool false)) (A :: row 69 5 (some ⟨kg, ko, none⟩) n kc (kidVals (ks.modify j Kid.fall)) :: L) := by
  have hj := (List.getElem?_eq_some_iff.1 hx).1
  have s5 := (S.swap.rowSet (j * 5 + 3) (by omega) (.bool false)).swap
  rw [kidVals, flat_set lenKid hx (by omega : 3 < 5) (y := ⟨c, false, gn⟩) rfl, ← Nat.add_assoc] at s5
  rw [modify_set hx Kid.fall]
  exact s5
set_option maxRecDepth 100000 in
set_option maxHeartbeats 4000000 in
theorem down_yes (S : Sat W w (sup p h s :: arch h :: L)) (j : Nat) (k : Kid) (normal : Bool) (now : Int) (hk : s.kids.length ≤ 10000) (h3 : s.state ≠ 3) (hx : s.kids[j]? = some k) (hup : k.up = true) (_hn : s.notes.length ≤ 17592186043904)
    (hD : s.state ≠ 2 → k.c.r ≠ 2 → (k.c.r = 1 ∧ normal = true))
    (hF : s.state = 2 → Su.fit { s with kids := (s.kids.modify j Kid.fall).modify j Kid.leave }) :
    Calls Try.prog 19 #[.pointer (some ⟨p, 0, none⟩), .int .i64 j, .bool normal, .int .i64 now] w fun e w' => ∃ a n c h', e = .returned (.slice a n c) ∧ n = (s.down j normal now).2.length ∧ Le h h' ∧ Sat W w' (row 46 2 a n c (acVals (s.down j normal now).2) :: sup p h' (s.down j normal now).1 :: arch h' :: L) := by
  obtain ⟨h', le, e1, e2, s2⟩ := down_boxes S j
  obtain ⟨⟨ka, kc, na, nc, la, lc, tv⟩, ht, s'⟩ := sup_open s2
  have b0 := s2.drop.archCell e1 0
  have b1 := s2.drop.archCell e2 0
  simp only [List.getElem?_toArray, List.getElem?_cons_zero] at b0 b1
  have c4 : World.cell? _ _ = some (.slice ka s.kids.length kc) := s'.cell 4
  have c5 : World.cell? _ _ = some (.int .i64 s.state) := s'.cell 5
  have hj : j < s.kids.length := (List.getElem?_eq_some_iff.1 hx).1
  obtain ⟨⟨kf, kr, kt⟩, up, gn⟩ := k
  simp only at hup
  subst hup
  have hd : (s.state == 3) = false := by simpa using h3
  have hd0 : decide ((j : Int) < 0) = false := by simp
  have hd1 : decide ((s.kids.length : Int) ≤ j) = false := by simpa using hj
  have hd2 : decide (s.kids.length ≤ j) = false := by simpa using hj
  obtain ⟨kg, ko, hka, hkc, hkf⟩ := (s'.sel [1]).rowCells (by omega)
  simp only at hka
  subst hka
  have e3 := hkc (j * 5 + 3) (by omega)
  rw [kidVals, flat_get lenKid hx (by omega)] at e3
  simp only [Kid.vals, List.getElem?_cons_succ, List.getElem?_cons_zero] at e3
  rw [← Nat.add_assoc] at e3
  have f3 := hkf (ko + j * 5 + 3)
  have HX := hid hx
  have HE1 := hid e1
  have HE2 := hid e2
  have HF := hid hF
  have HT := hid ht
  have HLE := hid le
  have S1 := hid s'
  obtain ⟨dn, HDN⟩ : ∃ d, Hid (s.down j normal now = d) := ⟨_, rfl⟩
  rw [HDN.out]
  clear S s2 s' ht e1 e2 le hkc hkf hx hF
  go_enter Try.func19, Try.ntmps19
  go_wp2_with fail
  go_quiet (fail)
  go_wp2_with fail
  go_quiet (fail)
  go_upto_region 4 with fail
  go_cut [47] (fun _ wc => Hid (Sat W wc (blk p (.cells (supCells ⟨some ⟨kg, ko, none⟩, kc, na, nc, la, lc, tv⟩ s) 67 (0, 0)) :: row 69 5 (some ⟨kg, ko, none⟩) s.kids.length kc (kidVals (s.kids.modify j Kid.fall)) :: row 3 1 na s.notes.length nc (i64s s.notes) :: row 3 1 la s.rl.length lc (i64s (ints s.rl.reverse)) :: arch h' :: L)))
  case first =>
    go_wp2_with fail
    go_meet
    exact fall_step (S1.out.drewN _) HX.out rfl
  case rest =>
    have S := hcut
    clear hcut S1 b0 b1 c4 c5 e3 f3
    have hx1 : (s.kids.modify j Kid.fall)[j]? = some ⟨⟨kf, kr, kt⟩, false, gn⟩ := by rw [List.getElem?_modify, HX.out]; simp [Kid.fall]
    have HX1 := hid hx1
    have hl1 : (s.kids.modify j Kid.fall).length = s.kids.length := by simp
    have HL1 := hid hl1
    have c5 : wc.cell? ⟨p, 5, none⟩ = some (.int .i64 s.state) := S.out.cell 5
    obtain ⟨_, _, hg, hkc, hkf⟩ := (S.out.sel [1]).rowCells (by omega)
    cases hg
    have e1 := hkc (j * 5 + 1) (by omega)
    have e4 := hkc (j * 5 + 4) (by omega)
    rw [kidVals, flat_get lenKid hx1 (by omega)] at e1 e4
    simp only [Kid.vals, List.getElem?_cons_succ, List.getElem?_cons_zero] at e1 e4
    rw [← Nat.add_assoc] at e1 e4
    have g4 := hkf (ko + j * 5 + 4)
    have b0 : wc.cell? ⟨w.heap.size, 0, none⟩ = some (.pointer (some ⟨p, 0, none⟩)) := (S.out.sel [4]).archCell HE1.out 0
    have b1 : wc.cell? ⟨w.heap.size + 1, 0, none⟩ = some (.int .i64 j) := (S.out.sel [4]).archCell HE2.out 0
    clear hx1 hl1 hkc hkf
    have hd9 := HDN.out
    unfold Su.down at hd9
    rw [if_neg (by simp [h3, upAt, HX.out]; omega)] at hd9
    simp only [Int.toNat_natCast, restAt, HX.out] at hd9
    have c8 : wc.cell? ⟨p, 8, none⟩ = some (.int .i64 s.stop) := S.out.cell 8
    by_cases h2 : s.state = 2
    · rw [if_pos h2] at hd9
      rw [h2] at c5
      obtain ⟨q, HQ⟩ : ∃ q : Bool, Hid ((gn || decide (kr = 2)) = q) := ⟨_, rfl⟩
      have hkl : ((s.kids.modify j Kid.fall).set j ⟨⟨kf, kr, kt⟩, false, q⟩) = (s.kids.modify j Kid.fall).modify j Kid.leave := by
        rw [modify_set HX1.out]
        simp only [Kid.leave]
        rw [HQ.out]
      have s3 := (S.out.swap.rowSet (j * 5 + 4) (by omega) (.bool q)).swap
      rw [kidVals, flat_set lenKid HX1.out (by omega : 4 < 5) (y := ⟨⟨kf, kr, kt⟩, false, q⟩) rfl, ← Nat.add_assoc, hkl] at s3
      have s4 : Sat W _ (sup p h' { s with kids := (s.kids.modify j Kid.fall).modify j Kid.leave } :: arch h' :: L) := Sat.mkbun (α := SR) ⟨some ⟨kg, ko, none⟩, kc, na, nc, la, lc, tv⟩ HT.out (by
        simp only [supParts, supCells, List.length_modify]
        exact s3)
      have c8' : World.cell? _ _ = some (.int .i64 s.stop) := s3.cell 8
      have b0' : World.cell? _ _ = some (.pointer (some ⟨p, 0, none⟩)) := s4.drop.archCell HE1.out 0
      have b1' : World.cell? _ _ = some (.int .i64 j) := s4.drop.archCell HE2.out 0
      have S4 := hid s4
      have HFF := hid (HF.out h2)
      have hq : (gn = true ∧ q = true) ∨ (gn = false ∧ (kr == 2) = q) := by
        have := HQ.out
        cases gn
        · right; exact ⟨rfl, by rw [← this]; simp [BEq.beq]⟩
        · left; exact ⟨rfl, by rw [← this]; rfl⟩
      clear s3 s4 hkl S
      by_cases hst : (j : Int) = s.stop
      · rw [if_pos hst] at hd9
        have hds : ((j : Int) == s.stop) = true := by simpa using hst
        have HD9 := hid hd9
        clear hd9 hst
        rcases hq with ⟨rfl, rfl⟩ | ⟨rfl, hq⟩
        all_goals go_wp2_with fail
        all_goals go_quiet (fail)
        all_goals go_wp2_with fail
        all_goals refine (next_sup (S4.out.drewN _) HFF.out now).mono ?_
        all_goals rintro e w1 ⟨a, n, c, rfl, hn', s1⟩
        all_goals have HN := hid hn'
        all_goals have S6 := hid s1
        all_goals clear s1 S4 hn'
        all_goals go_wp2_with fail
        all_goals go_ret
        all_goals rw [← HD9.out]
        all_goals exact ⟨_, _, _, h', rfl, HN.out, HLE.out, S6.out⟩
      · rw [if_neg hst] at hd9
        have hds : ((j : Int) == s.stop) = false := by simpa using hst
        have HD9 := hid hd9
        clear hd9 hst
        rcases hq with ⟨rfl, rfl⟩ | ⟨rfl, hq⟩
        all_goals go_wp2_with fail
        all_goals go_quiet (fail)
        all_goals go_wp2_with fail
        all_goals go_ret
        all_goals rw [← HD9.out]
        all_goals exact ⟨_, _, _, h', rfl, rfl, HLE.out, (S4.out.drewN _).rowNil⟩
    · rw [if_neg h2] at hd9
      have hd2' : (s.state == 2) = false := by simpa using h2
      by_cases hr2 : kr = 2
      · subst hr2
        rw [if_pos rfl] at hd9
        have hkl : ((s.kids.modify j Kid.fall).set j ⟨⟨kf, 2, kt⟩, false, true⟩) = (s.kids.modify j Kid.fall).modify j Kid.lose := by
          rw [modify_set HX1.out]; rfl
        have s3 := (S.out.swap.rowSet (j * 5 + 4) (by omega) (.bool true)).swap
        rw [kidVals, flat_set lenKid HX1.out (by omega : 4 < 5) (y := ⟨⟨kf, 2, kt⟩, false, true⟩) rfl, ← Nat.add_assoc, hkl] at s3
        have s4 : Sat W _ (sup p h' { s with kids := (s.kids.modify j Kid.fall).modify j Kid.lose } :: arch h' :: L) := Sat.mkbun (α := SR) ⟨some ⟨kg, ko, none⟩, kc, na, nc, la, lc, tv⟩ HT.out (by
          simp only [supParts, supCells, List.length_modify]
          exact s3)
        have S4 := hid s4
        have HD9 := hid hd9
        clear s3 s4 hkl S hd9
        go_wp2_with fail
        go_ret
        rw [← HD9.out]
        exact ⟨_, _, _, h', rfl, rfl, HLE.out, S4.out.rowNil⟩
      · rw [if_neg hr2] at hd9
        have hd3 : (kr == 2) = false := by simpa using hr2
        have s4 : Sat W _ (sup p h' { s with kids := s.kids.modify j Kid.fall } :: arch h' :: L) := Sat.mkbun (α := SR) ⟨some ⟨kg, ko, none⟩, kc, na, nc, la, lc, tv⟩ HT.out (by
          simp only [supParts, supCells, List.length_modify]
          exact S.out)
        have S4 := hid s4
        clear s4
        by_cases hr1 : kr = 1 ∧ normal = true
        · obtain ⟨rfl, rfl⟩ := hr1
          rw [if_pos ⟨rfl, rfl⟩] at hd9
          have HD9 := hid hd9
          clear hd9 S
          go_wp2_with fail
          go_ret
          rw [← HD9.out]
          first
            | exact ⟨_, _, _, h', rfl, rfl, HLE.out, S4.out.rowNil⟩
            | exact ⟨_, _, _, rfl, rfl, h', HLE.out, S4.out.rowNil⟩
        · exact absurd (hD h2 hr2) hr1
end
end Go.Proofs.Ytfhjoidciaidlaa
