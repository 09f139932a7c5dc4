/-
  THE SUPERVISOR: Down of one that is up, and is to be started again.
-/
import Derived.Test.YtfhjoidciaidlaaSupF
import Derived.IntWalk
namespace Go.Proofs.Ytfhjoidciaidlaa
open Go.RowKit
set_option maxHeartbeats 400000

section
variable {W w : World} {L : List HP} {h : Nat → Option Obj} {p : Nat} {s : Su}
theorem ups_sup' (S : Sat W w (sup p h s :: L)) (f : Nat) (fi : Int) (hfi : fi = f) (hk : s.kids.length ≤ 10000) : Calls Try.prog 43 #[.pointer (some ⟨p, 0, none⟩), .int .i64 fi] w fun e w' => ∃ a n c, e = .returned (.slice a n c) ∧ n = (ups s.kids f).length ∧ Sat W w' (row 3 1 a n c (i64s (ints (ups s.kids f))) :: sup p h s :: L) := by
  subst hfi
  exact ups_sup S f hk
theorem row_rev {a : Option Addr} {n c : Nat} {l : List Nat} (S : Sat W w (row 3 1 a n c (i64s (ints l)) :: L)) : Sat W w (row 3 1 a n c (i64s (ints l.reverse.reverse)) :: L) := by rw [List.reverse_reverse]; exact S
theorem len_rev {n : Nat} {l : List Nat} (h : n = l.length) : n = l.reverse.length := by rw [List.length_reverse]; exact h
theorem noted_step {ka : Option Addr} {kc : Nat} {na : Option Addr} {nc : Nat} {la : Option Addr} {lc : Nat} {tv : Value} {j c' : Nat} {a' : Option Addr} {now : Int} (ht : ThenIs h p s.th tv)
    (S : Sat W w (blk p (.cells (supCells ⟨ka, kc, na, nc, la, lc, tv⟩ s) 67 (0, 0)) :: row 69 5 ka s.kids.length kc (kidVals (s.kids.modify j Kid.fall)) :: row 3 1 a' (s.notes.length + 1) c' (i64s s.notes ++ [.int .i64 now]) :: row 3 1 la s.rl.length lc (i64s (ints s.rl.reverse)) :: L)) :
    Sat W (w.setCell ⟨p, 6, none⟩ (.slice a' (s.notes.length + 1) c')) (sup p h (s.noted j now) :: L) := by
  have s2 := S.set 6 (.slice a' (s.notes.length + 1) c')
  refine Sat.mkbun (α := SR) ⟨ka, kc, a', c', la, lc, tv⟩ ht ?_
  simp only [supParts, supCells, Su.noted, List.length_modify, List.length_append, List.length_cons, List.length_nil, i64s_snoc]
  exact s2
set_option maxRecDepth 100000 in
set_option maxHeartbeats 4000000 in
theorem down_over (S : Sat W w (sup p h s :: arch h :: L)) (j : Nat) (k : Kid) (normal : Bool) (now : Int) (hk : s.kids.length ≤ 10000) (h3 : s.state ≠ 3) (hx : s.kids[j]? = some k) (hup : k.up = true) (hn : s.notes.length ≤ 17592186043904)
    (h2 : s.state ≠ 2) (hr2 : k.c.r ≠ 2) (hr1 : ¬ (k.c.r = 1 ∧ normal = true)) :
    Calls Try.prog 19 #[.pointer (some ⟨p, 0, none⟩), .int .i64 j, .bool normal, .int .i64 now] w fun e w' => ∃ a n c h', e = .returned (.slice a n c) ∧ n = (s.down j normal now).2.length ∧ Le h h' ∧ Sat W w' (row 46 2 a n c (acVals (s.down j normal now).2) :: sup p h' (s.down j normal now).1 :: arch h' :: L) := by
  obtain ⟨h', le, e1, e2, s2⟩ := down_boxes S j
  obtain ⟨⟨ka, kc, na, nc, la, lc, tv⟩, ht, s'⟩ := sup_open s2
  have b0 := s2.drop.archCell e1 0
  have b1 := s2.drop.archCell e2 0
  simp only [List.getElem?_toArray, List.getElem?_cons_zero] at b0 b1
  have c4 : World.cell? _ _ = some (.slice ka s.kids.length kc) := s'.cell 4
  have c5 : World.cell? _ _ = some (.int .i64 s.state) := s'.cell 5
  have hj : j < s.kids.length := (List.getElem?_eq_some_iff.1 hx).1
  obtain ⟨⟨kf, kr, kt⟩, up, gn⟩ := k
  simp only at hup hr2 hr1
  subst hup
  have hd : (s.state == 3) = false := by simpa using h3
  have hd0 : decide ((j : Int) < 0) = false := by simp
  have hd1 : decide ((s.kids.length : Int) ≤ j) = false := by simpa using hj
  have hd2 : decide (s.kids.length ≤ j) = false := by simpa using hj
  obtain ⟨kg, ko, hka, hkc, hkf⟩ := (s'.sel [1]).rowCells (by omega)
  simp only at hka
  subst hka
  have e3 := hkc (j * 5 + 3) (by omega)
  rw [kidVals, flat_get lenKid hx (by omega)] at e3
  simp only [Kid.vals, List.getElem?_cons_succ, List.getElem?_cons_zero] at e3
  rw [← Nat.add_assoc] at e3
  have f3 := hkf (ko + j * 5 + 3)
  have HX := hid hx
  have HE1 := hid e1
  have HE2 := hid e2
  have HT := hid ht
  have HLE := hid le
  have S1 := hid s'
  obtain ⟨dn, HDN⟩ : ∃ d, Hid (s.down j normal now = d) := ⟨_, rfl⟩
  rw [HDN.out]
  clear S s2 s' ht e1 e2 le hkc hkf hx
  go_enter Try.func19, Try.ntmps19
  go_wp2_with fail
  go_quiet (fail)
  go_wp2_with fail
  go_quiet (fail)
  go_upto_region 4 with fail
  go_cut [47] (fun _ wc => Hid (Sat W wc (blk p (.cells (supCells ⟨some ⟨kg, ko, none⟩, kc, na, nc, la, lc, tv⟩ s) 67 (0, 0)) :: row 69 5 (some ⟨kg, ko, none⟩) s.kids.length kc (kidVals (s.kids.modify j Kid.fall)) :: row 3 1 na s.notes.length nc (i64s s.notes) :: row 3 1 la s.rl.length lc (i64s (ints s.rl.reverse)) :: arch h' :: L)))
  case first =>
    go_wp2_with fail
    go_meet
    exact fall_step (S1.out.drewN _) HX.out rfl
  case rest =>
    have S := hcut
    clear hcut S1 b0 b1 c4 c5 e3 f3
    have hx1 : (s.kids.modify j Kid.fall)[j]? = some ⟨⟨kf, kr, kt⟩, false, gn⟩ := by rw [List.getElem?_modify, HX.out]; simp [Kid.fall]
    have HX1 := hid hx1
    have hl1 : (s.kids.modify j Kid.fall).length = s.kids.length := by simp
    have HL1 := hid hl1
    have c5 : wc.cell? ⟨p, 5, none⟩ = some (.int .i64 s.state) := S.out.cell 5
    obtain ⟨_, _, hg, hkc, hkf⟩ := (S.out.sel [1]).rowCells (by omega)
    cases hg
    have e1 := hkc (j * 5 + 1) (by omega)
    have e4 := hkc (j * 5 + 4) (by omega)
    rw [kidVals, flat_get lenKid hx1 (by omega)] at e1 e4
    simp only [Kid.vals, List.getElem?_cons_succ, List.getElem?_cons_zero] at e1 e4
    rw [← Nat.add_assoc] at e1 e4
    have g4 := hkf (ko + j * 5 + 4)
    have b0 : wc.cell? ⟨w.heap.size, 0, none⟩ = some (.pointer (some ⟨p, 0, none⟩)) := (S.out.sel [4]).archCell HE1.out 0
    have b1 : wc.cell? ⟨w.heap.size + 1, 0, none⟩ = some (.int .i64 j) := (S.out.sel [4]).archCell HE2.out 0
    clear hx1 hl1 hkc hkf
    have hd9 := HDN.out
    unfold Su.down at hd9
    rw [if_neg (by simp [h3, upAt, HX.out]; omega)] at hd9
    simp only [Int.toNat_natCast, restAt, HX.out] at hd9
    have c8 : wc.cell? ⟨p, 8, none⟩ = some (.int .i64 s.stop) := S.out.cell 8
    rw [if_neg h2, if_neg hr2, if_neg hr1] at hd9
    have hd2' : (s.state == 2) = false := by simpa using h2
    have hd3 : (kr == 2) = false := by simpa using hr2
    have hr : (kr = 1 ∧ normal = false) ∨ (kr == 1) = false := by
      by_cases q : kr = 1
      · left; exact ⟨q, by simpa [q] using hr1⟩
      · right; simpa using q
    have HD9 := hid hd9
    have c6 : wc.cell? ⟨p, 6, none⟩ = some (.slice na s.notes.length nc) := S.out.cell 6
    have cA6 : World.cell? _ _ = some (.slice na s.notes.length nc) := (S.out.alloc' (.cells #[.int .i64 now] 3)).cell 6
    have bA0 : World.cell? _ _ = some (.pointer (some ⟨p, 0, none⟩)) := ((S.out.alloc' (.cells #[.int .i64 now] 3)).sel [4]).archCell HE1.out 0
    clear hd9 hr1
    go_upto_block 0 with fail
    go_cut [99] (fun _ wd => Hid (Sat W wd (sup p h' (s.noted j now) :: arch h' :: L)))
    case first =>
      rcases hr with ⟨rfl, rfl⟩ | hr1
      all_goals go_wp2_with fail
      all_goals go_region_law (refine step_push_row rfl _ _ rfl elemInt rfl S.out.rot3.drew (.int .i64 now) rfl (by simp) rfl (by unfold maxLen; omega) (by omega) ?_; intro a' c' w3 s5 ha' hz; have S5 := hid s5.unrot3; clear s5; have c6' : w3.cell? ⟨p, 6, none⟩ = some (.slice na s.notes.length nc) := S5.out.cell 6; have f6' := S5.out.free 6; have bB0 : w3.cell? ⟨w.heap.size, 0, none⟩ = some (.pointer (some ⟨p, 0, none⟩)) := (S5.out.sel [4]).archCell HE1.out 0)
      all_goals go_wp2_with fail
      all_goals go_meet
      all_goals exact noted_step HT.out S5.out
    case rest =>
      have SS := hcut
      clear hcut S c5 c6 c8 cA6 bA0 b0 b1 e1 e4 g4
      have bC0 : World.cell? _ ⟨w.heap.size, 0, none⟩ = some (.pointer (some ⟨p, 0, none⟩)) := (SS.out.sel [1]).archCell HE1.out 0
      have hk3 : (s.noted j now).kids.length ≤ 10000 := by simp [Su.noted]; exact hk
      go_wp2_with fail
      refine (many_sup SS.out now (by simp [Su.noted]; omega)).mono ?_
      rintro e w4 ⟨rfl, hw⟩
      have S4 := hid (SS.out.quiet hw)
      clear hw SS
      have b0 : w4.cell? ⟨w.heap.size, 0, none⟩ = some (.pointer (some ⟨p, 0, none⟩)) := (S4.out.sel [1]).archCell HE1.out 0
      have b1 : w4.cell? ⟨w.heap.size + 1, 0, none⟩ = some (.int .i64 j) := (S4.out.sel [1]).archCell HE2.out 0
      have hd9 := HD9.out
      by_cases hm : ((recent now (s.noted j now).t (s.noted j now).notes : Nat) : Int) > (s.noted j now).m
      · rw [decide_eq_true hm]
        rw [if_pos hm] at hd9
        have HD8 := hid hd9
        clear hd9 HD9
        have hff := fit_ups (s := s.noted j now) (f := 0) (th := .exit) hk3 (by simp) (by simp)
        have HFF := hid hff
        clear hff
        go_wp2_with fail
        go_region_held3 (fun w' => w'.cell? ⟨w.heap.size, 0, none⟩ = some (.pointer (some ⟨p, 0, none⟩))) (go_keep) (first | (go_at_call 43; refine (ups_sup S4.out.drew 0 hk3).mono ?_; rintro e w5 ⟨a, n, c, rfl, hn5, s5⟩; have S5 := hid s5; have S5' := hid (row_rev s5); have HN5 := hid (len_rev hn5); have bB0 : w5.cell? ⟨w.heap.size, 0, none⟩ = some (.pointer (some ⟨p, 0, none⟩)) := (S5.out.sel [2]).archCell HE1.out 0; clear s5 hn5) | (go_at_call 42; refine (end_sup (rl := (ups (s.noted j now).kids 0).reverse) (th := .exit) (S5'.out) HN5.out rfl HFF.out now).mono ?_; rintro e w6 ⟨a6, n6, c6, rfl, hn6, s6⟩; have S6 := hid s6; have HN6 := hid hn6; have bD0 : w6.cell? ⟨w.heap.size, 0, none⟩ = some (.pointer (some ⟨p, 0, none⟩)) := (S6.out.sel [2]).archCell HE1.out 0; clear s6 hn6))
        all_goals go_wp2_with fail
        all_goals go_ret
        all_goals rw [← HD8.out]
        all_goals first
          | exact ⟨_, _, _, h', rfl, HN6.out, HLE.out, S6.out⟩
          | exact ⟨_, _, _, rfl, HN6.out, h', HLE.out, S6.out⟩
      · rw [decide_eq_false hm]
        rw [if_neg hm] at hd9
        have c0 : w4.cell? ⟨p, 0, none⟩ = some (.int .i64 (s.noted j now).strat) := by
          obtain ⟨R4, _, s4⟩ := sup_open S4.out
          exact s4.cell 0
        by_cases ha : (s.noted j now).strat = 2
        · rw [ha] at c0
          rw [if_pos ha] at hd9
          have HD8 := hid hd9
          clear hd9 HD9
          have hff := fit_ups (s := s.noted j now) (f := 0) (th := .all) hk3 (by simp) (by simp)
          have HFF := hid hff
          clear hff
          have hti : ThenIs h' p .all (.func (.func 45) #[] #[.pointer (some ⟨w.heap.size, 0, none⟩)]) := ⟨_, rfl, _, HE1.out⟩
          have HTI := hid hti
          clear hti
          go_wp2_with fail
          go_region_held3 (fun w' => w'.cell? ⟨w.heap.size, 0, none⟩ = some (.pointer (some ⟨p, 0, none⟩))) (go_keep) (first | (go_at_call 43; refine (ups_sup S4.out.drew 0 hk3).mono ?_; rintro e w5 ⟨a, n, c, rfl, hn5, s5⟩; have S5 := hid s5; have S5' := hid (row_rev s5); have HN5 := hid (len_rev hn5); have bB0 : w5.cell? ⟨w.heap.size, 0, none⟩ = some (.pointer (some ⟨p, 0, none⟩)) := (S5.out.sel [2]).archCell HE1.out 0; clear s5 hn5) | (go_at_call 42; refine (end_sup (rl := (ups (s.noted j now).kids 0).reverse) (th := .all) (S5'.out) HN5.out HTI.out HFF.out now).mono ?_; rintro e w6 ⟨a6, n6, c6, rfl, hn6, s6⟩; have S6 := hid s6; have HN6 := hid hn6; have bD0 : w6.cell? ⟨w.heap.size, 0, none⟩ = some (.pointer (some ⟨p, 0, none⟩)) := (S6.out.sel [2]).archCell HE1.out 0; clear s6 hn6))
          all_goals go_wp2_with fail
          all_goals go_ret
          all_goals rw [← HD8.out]
          all_goals first
            | exact ⟨_, _, _, h', rfl, HN6.out, HLE.out, S6.out⟩
            | exact ⟨_, _, _, rfl, HN6.out, h', HLE.out, S6.out⟩
        · rw [if_neg ha] at hd9
          have hda : ((s.noted j now).strat == 2) = false := by simpa using ha
          by_cases hb : (s.noted j now).strat = 3
          · have HJI : Hid ((j : Int) + 1 = ((j + 1 : Nat) : Int)) := by unfold Hid; omega
            have hwr : IntKind.i64.wrap ((j : Int) + 1) = (j : Int) + 1 := IntWalk.i64_in _ (by omega)
            rw [hb] at c0
            rw [if_pos hb] at hd9
            have HD8 := hid hd9
            clear hd9 HD9
            have hff := fit_ups (s := s.noted j now) (f := j + 1) (th := .rest j) hk3 (by simp) (by simp [Su.noted]; omega)
            have HFF := hid hff
            clear hff
            have hti : ThenIs h' p (.rest j) (.func (.func 46) #[] #[.pointer (some ⟨w.heap.size, 0, none⟩), .pointer (some ⟨w.heap.size + 1, 0, none⟩)]) := ⟨_, _, rfl, ⟨_, HE1.out⟩, _, HE2.out⟩
            have HTI := hid hti
            clear hti
            go_wp2_with fail
            go_region_held3 (fun w' => w'.cell? ⟨w.heap.size, 0, none⟩ = some (.pointer (some ⟨p, 0, none⟩)) ∧ w'.cell? ⟨w.heap.size + 1, 0, none⟩ = some (.int .i64 j)) (go_keep) (first | (go_at_call 43; refine (ups_sup' S4.out.drew (j + 1) ((j : Int) + 1) HJI.out hk3).mono ?_; rintro e w5 ⟨a, n, c, rfl, hn5, s5⟩; have S5 := hid s5; have S5' := hid (row_rev s5); have HN5 := hid (len_rev hn5); have bB0 : w5.cell? ⟨w.heap.size, 0, none⟩ = some (.pointer (some ⟨p, 0, none⟩)) := (S5.out.sel [2]).archCell HE1.out 0; have bB1 : w5.cell? ⟨w.heap.size + 1, 0, none⟩ = some (.int .i64 j) := (S5.out.sel [2]).archCell HE2.out 0; clear s5 hn5) | (go_at_call 42; refine (end_sup (rl := (ups (s.noted j now).kids (j + 1)).reverse) (th := .rest j) (S5'.out) HN5.out HTI.out HFF.out now).mono ?_; rintro e w6 ⟨a6, n6, c6, rfl, hn6, s6⟩; have S6 := hid s6; have HN6 := hid hn6; have bD0 : w6.cell? ⟨w.heap.size, 0, none⟩ = some (.pointer (some ⟨p, 0, none⟩)) := (S6.out.sel [2]).archCell HE1.out 0; have bD1 : w6.cell? ⟨w.heap.size + 1, 0, none⟩ = some (.int .i64 j) := (S6.out.sel [2]).archCell HE2.out 0; clear s6 hn6))
            all_goals go_wp2_with fail
            all_goals go_ret
            all_goals rw [← HD8.out]
            all_goals first
              | exact ⟨_, _, _, h', rfl, HN6.out, HLE.out, S6.out⟩
              | exact ⟨_, _, _, rfl, HN6.out, h', HLE.out, S6.out⟩
          · rw [if_neg hb] at hd9
            have hdb : ((s.noted j now).strat == 3) = false := by simpa using hb
            have HD8 := hid hd9
            clear hd9 HD9
            go_wp2_with fail
            refine (start_sup S4.out j (j + 1) (by omega) (by simp [Su.noted]; omega) hk3).mono ?_
            rintro e w5 ⟨a, n, c, rfl, hn6, s6⟩
            have S6 := hid s6
            have HN6 := hid hn6
            clear s6 hn6
            go_wp2_with fail
            go_ret
            rw [← HD8.out]
            first
              | exact ⟨_, _, _, h', rfl, HN6.out, HLE.out, S6.out⟩
              | exact ⟨_, _, _, rfl, HN6.out, h', HLE.out, S6.out⟩
end
end Go.Proofs.Ytfhjoidciaidlaa
