/-
  THE SUPERVISOR: start, Begin, the two closures, many.
-/
import Derived.Test.YtfhjoidciaidlaaSup
namespace Go.Proofs.Ytfhjoidciaidlaa
open Go.RowKit
set_option maxHeartbeats 400000

/-- was it within so many ticks? (as the code counts) -/
def inTime (a b n : Int) : Bool := decide (a < b) || decide (IntKind.u64.wrap (IntKind.u64.wrap a - IntKind.u64.wrap b) < IntKind.u64.wrap n)
def recent (now t : Int) (l : List Int) : Nat := (l.filter fun x => inTime now x t).length
theorem recent_snoc (now t x : Int) (l : List Int) : recent now t (l ++ [x]) = recent now t l + (if inTime now x t = true then 1 else 0) := by
  unfold recent
  rw [List.filter_append, List.length_append]
  congr 1
  by_cases h : inTime now x t = true <;> simp [h]

theorem below_any (a b n : Int) (w : World) : Calls Try.prog 47 #[.int .i64 a, .int .i64 b, .int .i64 n] w fun e w' => e = .returned (.bool (inTime a b n)) ∧ w = w' := by
  by_cases h : a < b
  · have hd : decide (a < b) = true := by simpa using h
    go_enter Try.func47, Try.ntmps47
    go_wp2_with fail
    go_ret
    simp [inTime, h]
  · have hd : decide (a < b) = false := by simpa using h
    go_enter Try.func47, Try.ntmps47
    go_wp2_with fail
    go_ret
    refine ⟨?_, rfl⟩
    have h0 : decide (a < b) = false := hd
    unfold inTime
    rw [h0]
    rfl

section
variable {W w : World} {L : List HP} {h : Nat → Option Obj} {p : Nat} {s : Su}
set_option maxRecDepth 100000 in
theorem start_sup (S : Sat W w (sup p h s :: L)) (f t : Nat) (hft : f ≤ t) (ht : t ≤ s.kids.length) (hk : s.kids.length ≤ 10000) : Calls Try.prog 39 #[.pointer (some ⟨p, 0, none⟩), .int .i64 f, .int .i64 t] w fun e w' => ∃ a n c, e = .returned (.slice a n c) ∧ n = (startActs s.kids f t).length ∧ Sat W w' (row 46 2 a n c (acVals (startActs s.kids f t)) :: sup p h (s.start f t) :: L) := by
  obtain ⟨R, hth, s'⟩ := sup_open S
  have S1 := hid (s'.rowNil (e := 46) (size := 2))
  have HT := hid hth
  clear S s' hth
  go_enter Try.func39, Try.ntmps39
  go_wp2_with fail
  go_loopw [7, 8] (fun lv iv wr => ∃ (i : Nat) (A : Option Addr) (ca : Nat), f ≤ i ∧ i ≤ t ∧ iv = .int .i64 i ∧ lv = .slice A (startActs s.kids f i).length ca ∧ Hid (Sat W wr (row 46 2 A (startActs s.kids f i).length ca (acVals (startActs s.kids f i)) :: blk p (.cells (supCells R s) 67 (0, 0)) :: row 69 5 R.ka s.kids.length R.kc (kidVals (raise f i s.kids)) :: row 3 1 R.na s.notes.length R.nc (i64s s.notes) :: row 3 1 R.la s.rl.length R.lc (i64s (ints s.rl.reverse)) :: L))) (fun _ iv _ => s.kids.length - (intOf iv).toNat)
  case atStart => exact ⟨f, none, 0, Nat.le_refl _, hft, rfl, by rw [startActs_base]; rfl, by rw [startActs_base, raise_base]; exact S1⟩
  case round =>
    obtain ⟨i, A, ca, hfi, hi, rfl, rfl, S⟩ := hrel
    clear S1
    have c4 : wr.cell? ⟨p, 4, none⟩ = some (.slice R.ka s.kids.length R.kc) := S.out.drop.cell 4
    by_cases hlt : i < t
    · obtain ⟨⟨kc, up, gn⟩, hx⟩ : ∃ x, s.kids[i]? = some x := ⟨_, List.getElem?_eq_getElem (by omega)⟩
      have hx' : (raise f i s.kids)[i]? = some ⟨kc, up, gn⟩ := by rw [raise_get]; exact hx
      have hrd := (S.out.drop.drop).rowRd
      obtain ⟨g, off, hka, e3⟩ := hrd (i * 5 + 3) _ (by rw [kidVals, flat_get lenKid hx' (by omega)]; rfl)
      obtain ⟨_, _, hg, e4⟩ := hrd (i * 5 + 4) _ (by rw [kidVals, flat_get lenKid hx' (by omega)]; rfl)
      rw [hka] at hg
      cases hg
      rw [← Nat.add_assoc] at e3 e4
      rw [hka] at c4
      have S0 := S.out.rot3
      rw [hka] at S0
      obtain ⟨_, _, hg, _, hfz⟩ := S0.rowCells (by omega)
      cases hg
      have f3 := hfz (off + i * 5 + 3)
      have HX := hid hx
      have HX' := hid hx'
      have HA := hid hka
      have HS0 := hid S0
      clear hrd hx hka S0 hfz S hx'
      have hul := startActs_length s.kids f i
      cases gn with
      | false =>
        have s1 := (HS0.out.rowSet (i * 5 + 3) (by omega) (.bool true)).unrot3
        rw [kidVals, flat_set lenKid HX'.out (by omega : 3 < 5) (y := ⟨kc, true, false⟩) rfl, ← raise_up s.kids hfi HX.out rfl, ← Nat.add_assoc] at s1
        have S1 := hid s1
        clear s1 HS0
        go_wp2_with (at_builtin; refine wpList_pushN rfl _ _ rfl elemAc rfl S1.out (Ac.vals ⟨1, i⟩) rfl rfl (by simp) (oneAc _) (by unfold maxLen; omega) (by omega) ?_; intro a' c' w3 s4 ha' hz; have S4 := hid s4; clear s4 S1 c4 e3 e4 f3)
        go_roundw
        case rel =>
          have hu : startActs s.kids f (i + 1) = startActs s.kids f i ++ [⟨1, (i : Int)⟩] := by rw [startActs_succ _ hfi]; simp [goneAt, HX.out]
          refine ⟨i + 1, a', c', by omega, by omega, by go_num, by rw [hu]; simp, hid ?_⟩
          have := S4.out
          rw [hu]
          rw [HA.out]
          simpa [acVals, kidVals] using this
        case measure => simp [intOf]; omega
      | true =>
        go_wp2_with fail
        go_roundw
        case rel =>
          have hu : startActs s.kids f (i + 1) = startActs s.kids f i := by rw [startActs_succ _ hfi]; simp [goneAt, HX.out]
          have hr : raise f (i + 1) s.kids = raise f i s.kids := raise_gone s.kids HX.out rfl
          refine ⟨i + 1, A, ca, by omega, by omega, by go_num, by rw [hu], ?_⟩
          rw [hu, hr, HA.out]
          exact hid HS0.out.unrot3
        case measure => simp [intOf]; omega
    · obtain rfl : i = t := by omega
      have f5 := S.out.drop.free 5
      have c5 : wr.cell? ⟨p, 5, none⟩ = some (.int .i64 s.state) := S.out.drop.cell 5
      go_wp2_with fail
      go_ret
      refine ⟨_, _, _, rfl, rfl, Sat.swap (Sat.mkbun (α := SR) R HT.out (Sat.unrot5 ?_))⟩
      have s2 := (S.out.swap.set 5 (.int .i64 1)).swap
      show Sat W _ (_ :: blk p (.cells (supCells R (s.start f i)) 67 (0, 0)) :: row 69 5 R.ka (s.start f i).kids.length R.kc _ :: _)
      have hl : (s.start f i).kids.length = s.kids.length := raise_length _ _ _
      rw [supCells, hl]
      exact s2
theorem begin_sup (S : Sat W w (sup p h s :: L)) (h0 : s.state = 0) (hk : s.kids.length ≤ 10000) : Calls Try.prog 18 #[.pointer (some ⟨p, 0, none⟩)] w fun e w' => ∃ a n c, e = .returned (.slice a n c) ∧ n = (startActs s.kids 0 s.kids.length).length ∧ Sat W w' (row 46 2 a n c (acVals (startActs s.kids 0 s.kids.length)) :: sup p h (s.start 0 s.kids.length) :: L) := by
  obtain ⟨R, hth, s'⟩ := sup_open S
  have c4 : w.cell? ⟨p, 4, none⟩ = some (.slice R.ka s.kids.length R.kc) := s'.cell 4
  have c5 : w.cell? ⟨p, 5, none⟩ = some (.int .i64 s.state) := s'.cell 5
  rw [h0] at c5
  have S1 := hid S
  clear S s' hth
  go_enter Try.func18, Try.ntmps18
  go_wp2_with fail
  refine (start_sup S1.out 0 s.kids.length (Nat.zero_le _) (Nat.le_refl _) hk).mono ?_
  rintro e w1 ⟨a, n, c, rfl, hn, s1⟩
  have S2 := hid s1
  have HN := hid hn
  clear s1 S1 c4 c5 hn
  go_wp2_with fail
  go_ret
  exact ⟨_, _, _, rfl, HN.out, S2.out⟩
theorem begin_again (S : Sat W w (sup p h s :: L)) (h0 : s.state ≠ 0) : Calls Try.prog 18 #[.pointer (some ⟨p, 0, none⟩)] w fun e w' => e = .returned (.slice none 0 0) ∧ w = w' := by
  obtain ⟨R, hth, s'⟩ := sup_open S
  have c5 : w.cell? ⟨p, 5, none⟩ = some (.int .i64 s.state) := s'.cell 5
  clear S s' hth
  have hd : (s.state != 0) = true := by simpa using h0
  go_enter Try.func18, Try.ntmps18
  go_wp2_with fail
  go_ret
  exact ⟨rfl, rfl⟩
set_option maxRecDepth 100000 in
theorem many_sup (S : Sat W w (sup p h s :: L)) (now : Int) (hk : s.notes.length ≤ 4611686018427387904) : Calls Try.prog 41 #[.pointer (some ⟨p, 0, none⟩), .int .i64 now] w fun e w' => e = .returned (.bool (decide ((recent now s.t s.notes : Nat) > s.m))) ∧ ∃ m, w' = w.drewN m := by
  obtain ⟨⟨ka, kc, na, nc, la, lc, tv⟩, hth, s'⟩ := sup_open S
  have c1 : w.cell? ⟨p, 1, none⟩ = some (.int .i64 s.m) := s'.cell 1
  have c2 : w.cell? ⟨p, 2, none⟩ = some (.int .i64 s.t) := s'.cell 2
  have c6 : w.cell? ⟨p, 6, none⟩ = some (.slice na s.notes.length nc) := s'.cell 6
  have HR := hid ((s'.sel [2]).rowRd)
  clear S s' hth
  go_enter Try.func41, Try.ntmps41
  go_wp2_with fail
  go_loopw [5, 13] (fun nv iv wr => ∃ (i : Nat), i ≤ s.notes.length ∧ iv = .int .i64 i ∧ (recent now s.t (s.notes.take i)) ≤ i ∧ nv = .int .i64 (recent now s.t (s.notes.take i) : Nat) ∧ w = wr) (fun _ iv _ => s.notes.length - (intOf iv).toNat)
  case atStart => exact ⟨0, Nat.zero_le _, rfl, by simp [recent], by simp [recent], rfl⟩
  case round =>
    obtain ⟨i, hi, rfl, hri, rfl, rfl⟩ := hrel
    by_cases hlt : i < s.notes.length
    · obtain ⟨x, hx⟩ : ∃ x, s.notes[i]? = some x := ⟨_, List.getElem?_eq_getElem hlt⟩
      obtain ⟨g, off, rfl, e0⟩ := HR.out i _ (get_i64s hx)
      have htk : s.notes.take (i + 1) = s.notes.take i ++ [x] := by rw [List.take_add_one, hx]; rfl
      have HTK := hid htk
      clear hx htk
      obtain ⟨r, HRR⟩ : ∃ r, Hid (recent now s.t (s.notes.take i) = r) := ⟨_, rfl⟩
      rw [HRR.out] at hri ⊢
      go_wp2_with fail
      refine (below_any now x s.t _).mono ?_
      rintro e w1 ⟨rfl, rfl⟩
      have hsn := recent_snoc now s.t x (s.notes.take i)
      rw [← HTK.out, HRR.out] at hsn
      cases hit : inTime now x s.t with
      | true =>
        rw [hit] at hsn
        simp only [if_true] at hsn
        have HSN := hid hsn
        clear hsn
        go_wp2_with fail
        go_roundw
        case rel => exact ⟨i + 1, by omega, by go_num, by rw [HSN.out]; omega, by rw [HSN.out]; go_num, trivial⟩
        case measure => simp [intOf]; omega
      | false =>
        rw [hit] at hsn
        simp only [if_false, Bool.false_eq_true, Nat.add_zero] at hsn
        have HSN := hid hsn
        clear hsn
        go_wp2_with fail
        go_roundw
        case rel => exact ⟨i + 1, by omega, by go_num, by rw [HSN.out]; omega, by rw [HSN.out], trivial⟩
        case measure => simp [intOf]; omega
    · obtain rfl : i = s.notes.length := by omega
      go_wp2_with fail
      go_ret
      rw [List.take_length]
      exact ⟨rfl, 0, rfl⟩

/-- what comes behind: the two closures -/
theorem all_sup (S : Sat W w (sup p h s :: arch h :: L)) {b : Nat} {fr : Nat × Nat} (hb : h b = some (.cells #[.pointer (some ⟨p, 0, none⟩)] 25 fr)) (hk : s.kids.length ≤ 10000) : Calls Try.prog 45 #[.pointer (some ⟨b, 0, none⟩)] w fun e w' => ∃ a n c, e = .returned (.slice a n c) ∧ n = (startActs s.kids 0 s.kids.length).length ∧ Sat W w' (row 46 2 a n c (acVals (startActs s.kids 0 s.kids.length)) :: sup p h (s.start 0 s.kids.length) :: arch h :: L) := by
  obtain ⟨R, hth, s'⟩ := sup_open S
  have c4 : w.cell? ⟨p, 4, none⟩ = some (.slice R.ka s.kids.length R.kc) := s'.cell 4
  have b0 : w.cell? ⟨b, 0, none⟩ = some (.pointer (some ⟨p, 0, none⟩)) := S.drop.archCell hb 0
  have S1 := hid S
  clear S s' hth
  go_enter Try.func45, Try.ntmps45
  go_wp2_with fail
  refine wp_region_quiet_tail 6 (by kernel_rfl) (by kernel_rfl) ?_
  simp only [List.take_succ_cons, List.take_zero, List.drop_succ_cons, List.drop_zero]
  repeat (go_big_quiet_step (fail))
  refine wpQuiet_nil ?_
  intro _ hw'
  obtain ⟨nq, hw''⟩ := hw'
  subst hw''
  go_wp2_with (go_at_call 39; refine (start_sup (S1.out.drewN _) 0 s.kids.length (Nat.zero_le _) (Nat.le_refl _) hk).mono ?_)
  rintro e w1 ⟨a, n, c, rfl, hn, s1⟩
  have S2 := hid s1
  have HN := hid hn
  clear s1 S1 c4 b0 hn
  go_wp2_with fail
  go_ret
  exact ⟨_, _, _, rfl, HN.out, S2.out⟩
theorem rest_sup (S : Sat W w (sup p h s :: arch h :: L)) {b b' i : Nat} {fr fr' : Nat × Nat} (hb : h b = some (.cells #[.pointer (some ⟨p, 0, none⟩)] 25 fr)) (hb' : h b' = some (.cells #[.int .i64 i] 3 fr')) (hi : i ≤ s.kids.length) (hk : s.kids.length ≤ 10000) : Calls Try.prog 46 #[.pointer (some ⟨b, 0, none⟩), .pointer (some ⟨b', 0, none⟩)] w fun e w' => ∃ a n c, e = .returned (.slice a n c) ∧ n = (startActs s.kids i s.kids.length).length ∧ Sat W w' (row 46 2 a n c (acVals (startActs s.kids i s.kids.length)) :: sup p h (s.start i s.kids.length) :: arch h :: L) := by
  obtain ⟨R, hth, s'⟩ := sup_open S
  have c4 : w.cell? ⟨p, 4, none⟩ = some (.slice R.ka s.kids.length R.kc) := s'.cell 4
  have b0 : w.cell? ⟨b, 0, none⟩ = some (.pointer (some ⟨p, 0, none⟩)) := S.drop.archCell hb 0
  have b1 : w.cell? ⟨b', 0, none⟩ = some (.int .i64 i) := S.drop.archCell hb' 0
  have S1 := hid S
  clear S s' hth hb hb'
  go_enter Try.func46, Try.ntmps46
  go_wp2_with fail
  refine wp_region_quiet_tail 7 (by kernel_rfl) (by kernel_rfl) ?_
  simp only [List.take_succ_cons, List.take_zero, List.drop_succ_cons, List.drop_zero]
  repeat (go_big_quiet_step (fail))
  refine wpQuiet_nil ?_
  intro _ hw'
  obtain ⟨nq, hw''⟩ := hw'
  subst hw''
  go_wp2_with (go_at_call 39; refine (start_sup (S1.out.drewN _) i s.kids.length hi (Nat.le_refl _) hk).mono ?_)
  rintro e w1 ⟨a, n, c, rfl, hn, s1⟩
  have S2 := hid s1
  have HN := hid hn
  clear s1 S1 c4 b0 b1 hn
  go_wp2_with fail
  go_ret
  exact ⟨_, _, _, rfl, HN.out, S2.out⟩
end
end Go.Proofs.Ytfhjoidciaidlaa
