/-
  tree.fields: lists; and any term. (Written by wip/gen/gen_fields.py.)
-/
import Derived.Test.YtlgogflhjpcmlaaDoorTFields
namespace Go.Proofs.YtlgogflhjpcmlaaDoor
open Go.RowKit
set_option maxHeartbeats 2000000
set_option linter.unusedVariables false
section
variable {W w : World} {L : List HP} {h : Nat → Option Obj}

set_option maxRecDepth 100000 in
theorem fields_k7 (S : Sat W w (arch h :: L)) (n : Int) (nm : ByteArray) (ia ra ba : Option Addr) (ni nr nb ic rc bc : Nat) (rk : Int) (hrk : nr = 1 → ∃ g off, ra = some ⟨g, off, none⟩ ∧ cellIn h g off = some (.int .i64 rk)) (h1 : ni ≤ 1353245080300) (h2 : nr ≤ 1353245080300) (h3 : nb ≤ 140737488351232) (h4 : nm.size ≤ 140737488351232) :
    Calls Tryd.prog 65 #[.agg #[.int .i64 7, .int .i64 n, .string nm, .slice ia ni ic, .slice ra nr rc, .slice ba nb bc]] w fun e w' => e = .returned (.bool (fldB 7 n nm.size ni nr nb rk)) ∧ Sat W w' (arch h :: L) := by
  have S1 := hid (S.alloc' (.cells #[.int .i64 7, .int .i64 n, .string nm, .slice ia ni ic, .slice ra nr rc, .slice ba nb bc] 35))
  clear S

  by_cases c1 : ni = 0
  · skip
    have hb : fldB 7 n nm.size ni nr nb rk = false := (show _ = decide (ni ≠ 0 ∧ nr ≤ 1 ∧ (nr = 1 → rk ≠ 7 ∧ rk ≠ 6) ∧ n = 0 ∧ nm.size = 0 ∧ nb = 0) from rfl).trans (decide_eq_false (by omega))
    rw [hb]
    clear hb
    subst c1
    clear hrk
    go_enter Tryd.func65, Tryd.ntmps65
    go_wp2_with fail
    go_quiet (fail)
    go_wp2_with fail
    go_ret
    exact ⟨rfl, S1.out.drewN _⟩
  · have c1b : ((ni : Int) == 0) = false := by simp; omega
    by_cases c2 : 1 < nr
    · skip
      have hb : fldB 7 n nm.size ni nr nb rk = false := (show _ = decide (ni ≠ 0 ∧ nr ≤ 1 ∧ (nr = 1 → rk ≠ 7 ∧ rk ≠ 6) ∧ n = 0 ∧ nm.size = 0 ∧ nb = 0) from rfl).trans (decide_eq_false (by omega))
      rw [hb]
      clear hb
      clear hrk
      go_enter Tryd.func65, Tryd.ntmps65
      go_wp2_with fail
      go_quiet (fail)
      go_wp2_with fail
      go_ret
      exact ⟨rfl, S1.out.drewN _⟩
    · by_cases c3 : nr = 1
      · obtain ⟨g, off, rfl, hc⟩ := hrk c3
        have e0 := S1.out.cellIn hc
        clear hrk hc
        by_cases c4 : rk = 7
        · skip
          have hb : fldB 7 n nm.size ni nr nb rk = false := (show _ = decide (ni ≠ 0 ∧ nr ≤ 1 ∧ (nr = 1 → rk ≠ 7 ∧ rk ≠ 6) ∧ n = 0 ∧ nm.size = 0 ∧ nb = 0) from rfl).trans (decide_eq_false (by omega))
          rw [hb]
          clear hb
          subst c3 c4
          go_enter Tryd.func65, Tryd.ntmps65
          go_wp2_with fail
          go_quiet (fail)
          go_wp2_with fail
          go_ret
          exact ⟨rfl, S1.out.drewN _⟩
        · have c4b : (rk == 7) = false := by simpa using c4
          by_cases c5 : rk = 6
          · skip
            have hb : fldB 7 n nm.size ni nr nb rk = false := (show _ = decide (ni ≠ 0 ∧ nr ≤ 1 ∧ (nr = 1 → rk ≠ 7 ∧ rk ≠ 6) ∧ n = 0 ∧ nm.size = 0 ∧ nb = 0) from rfl).trans (decide_eq_false (by omega))
            rw [hb]
            clear hb
            subst c3 c5
            go_enter Tryd.func65, Tryd.ntmps65
            go_wp2_with fail
            go_quiet (fail)
            go_wp2_with fail
            go_ret
            exact ⟨rfl, S1.out.drewN _⟩
          · have c5b : (rk == 6) = false := by simpa using c5
            by_cases g0 : n = 0
            · skip
              by_cases g1 : nm.size = 0
              · skip
                by_cases g2 : nb = 0
                · skip
                  have hb : fldB 7 n nm.size ni nr nb rk = true := (show _ = decide (ni ≠ 0 ∧ nr ≤ 1 ∧ (nr = 1 → rk ≠ 7 ∧ rk ≠ 6) ∧ n = 0 ∧ nm.size = 0 ∧ nb = 0) from rfl).trans (decide_eq_true (by omega))
                  rw [hb]
                  clear hb
                  clear c4 c5 c2
                  subst c3
                  subst g0
                  obtain rfl := size0 g1
                  subst g2
                  go_enter Tryd.func65, Tryd.ntmps65
                  go_wp2_with fail
                  go_quiet (fail)
                  go_wp2_with fail
                  go_ret
                  exact ⟨rfl, S1.out.drewN _⟩
                · skip
                  have hb : fldB 7 n nm.size ni nr nb rk = false := (show _ = decide (ni ≠ 0 ∧ nr ≤ 1 ∧ (nr = 1 → rk ≠ 7 ∧ rk ≠ 6) ∧ n = 0 ∧ nm.size = 0 ∧ nb = 0) from rfl).trans (decide_eq_false (by omega))
                  rw [hb]
                  clear hb
                  clear c4 c5 c2
                  subst c3
                  have g2b : ((nb : Int) == 0) = false := by simp; omega
                  subst g0
                  obtain rfl := size0 g1
                  go_enter Tryd.func65, Tryd.ntmps65
                  go_wp2_with fail
                  go_quiet (fail)
                  go_wp2_with fail
                  go_ret
                  exact ⟨rfl, S1.out.drewN _⟩
              · skip
                have hb : fldB 7 n nm.size ni nr nb rk = false := (show _ = decide (ni ≠ 0 ∧ nr ≤ 1 ∧ (nr = 1 → rk ≠ 7 ∧ rk ≠ 6) ∧ n = 0 ∧ nm.size = 0 ∧ nb = 0) from rfl).trans (decide_eq_false (by omega))
                rw [hb]
                clear hb
                clear c4 c5 c2
                subst c3
                obtain ⟨g11, g12, g13⟩ := size1 g1
                subst g0
                go_enter Tryd.func65, Tryd.ntmps65
                go_wp2_with fail
                go_quiet (fail)
                go_wp2_with fail
                go_ret
                exact ⟨rfl, S1.out.drewN _⟩
            · skip
              have hb : fldB 7 n nm.size ni nr nb rk = false := (show _ = decide (ni ≠ 0 ∧ nr ≤ 1 ∧ (nr = 1 → rk ≠ 7 ∧ rk ≠ 6) ∧ n = 0 ∧ nm.size = 0 ∧ nb = 0) from rfl).trans (decide_eq_false (by omega))
              rw [hb]
              clear hb
              clear c4 c5 c2
              subst c3
              have g0b : (n == 0) = false := by simpa using g0
              go_enter Tryd.func65, Tryd.ntmps65
              go_wp2_with fail
              go_quiet (fail)
              go_wp2_with fail
              go_ret
              exact ⟨rfl, S1.out.drewN _⟩
      · have c3b : nr = 0 := by omega
        clear hrk
        by_cases g0 : n = 0
        · skip
          by_cases g1 : nm.size = 0
          · skip
            by_cases g2 : nb = 0
            · skip
              have hb : fldB 7 n nm.size ni nr nb rk = true := (show _ = decide (ni ≠ 0 ∧ nr ≤ 1 ∧ (nr = 1 → rk ≠ 7 ∧ rk ≠ 6) ∧ n = 0 ∧ nm.size = 0 ∧ nb = 0) from rfl).trans (decide_eq_true (by omega))
              rw [hb]
              clear hb
              clear c2 c3
              subst c3b
              subst g0
              obtain rfl := size0 g1
              subst g2
              go_enter Tryd.func65, Tryd.ntmps65
              go_wp2_with fail
              go_quiet (fail)
              go_wp2_with fail
              go_ret
              exact ⟨rfl, S1.out.drewN _⟩
            · skip
              have hb : fldB 7 n nm.size ni nr nb rk = false := (show _ = decide (ni ≠ 0 ∧ nr ≤ 1 ∧ (nr = 1 → rk ≠ 7 ∧ rk ≠ 6) ∧ n = 0 ∧ nm.size = 0 ∧ nb = 0) from rfl).trans (decide_eq_false (by omega))
              rw [hb]
              clear hb
              clear c2 c3
              subst c3b
              have g2b : ((nb : Int) == 0) = false := by simp; omega
              subst g0
              obtain rfl := size0 g1
              go_enter Tryd.func65, Tryd.ntmps65
              go_wp2_with fail
              go_quiet (fail)
              go_wp2_with fail
              go_ret
              exact ⟨rfl, S1.out.drewN _⟩
          · skip
            have hb : fldB 7 n nm.size ni nr nb rk = false := (show _ = decide (ni ≠ 0 ∧ nr ≤ 1 ∧ (nr = 1 → rk ≠ 7 ∧ rk ≠ 6) ∧ n = 0 ∧ nm.size = 0 ∧ nb = 0) from rfl).trans (decide_eq_false (by omega))
            rw [hb]
            clear hb
            clear c2 c3
            subst c3b
            obtain ⟨g11, g12, g13⟩ := size1 g1
            subst g0
            go_enter Tryd.func65, Tryd.ntmps65
            go_wp2_with fail
            go_quiet (fail)
            go_wp2_with fail
            go_ret
            exact ⟨rfl, S1.out.drewN _⟩
        · skip
          have hb : fldB 7 n nm.size ni nr nb rk = false := (show _ = decide (ni ≠ 0 ∧ nr ≤ 1 ∧ (nr = 1 → rk ≠ 7 ∧ rk ≠ 6) ∧ n = 0 ∧ nm.size = 0 ∧ nb = 0) from rfl).trans (decide_eq_false (by omega))
          rw [hb]
          clear hb
          clear c2 c3
          subst c3b
          have g0b : (n == 0) = false := by simpa using g0
          go_enter Tryd.func65, Tryd.ntmps65
          go_wp2_with fail
          go_quiet (fail)
          go_wp2_with fail
          go_ret
          exact ⟨rfl, S1.out.drewN _⟩

theorem fields_any (S : Sat W w (arch h :: L)) (t : T) (vs : List Value) (hin : TIn h t vs) (hok : TOk t) :
    Calls Tryd.prog 65 #[.agg vs.toArray] w fun e w' => e = .returned (.bool (flds t)) ∧ Sat W w' (arch h :: L) := by
  obtain ⟨ia, ic, ra, rc, ba, bc, rfl, q1, q2, q3, q4⟩ := hin.vals
  have F := hok.fit
  unfold flds tVals
  obtain ⟨k, hk⟩ : ∃ k, t.k = k := ⟨_, rfl⟩
  rw [hk]
  by_cases e1 : k = 1
  · subst e1; exact fields_k1 S _ _ _ _ _ _ _ _ _ _ _ _ F.is F.rs F.bs F.nm
  by_cases e2 : k = 2
  · subst e2; exact fields_k2 S _ _ _ _ _ _ _ _ _ _ _ _ F.is F.rs F.bs F.nm
  by_cases e3 : k = 3
  · subst e3; exact fields_k3 S _ _ _ _ _ _ _ _ _ _ _ _ F.is F.rs F.bs F.nm
  by_cases e4 : k = 4
  · subst e4; exact fields_k4 S _ _ _ _ _ _ _ _ _ _ _ _ F.is F.rs F.bs F.nm
  by_cases e5 : k = 5
  · subst e5; exact fields_k5 S _ _ _ _ _ _ _ _ _ _ _ _ F.is F.rs F.bs F.nm
  by_cases e6 : k = 6
  · subst e6; exact fields_k6 S _ _ _ _ _ _ _ _ _ _ _ _ F.is F.rs F.bs F.nm
  by_cases e8 : k = 8
  · subst e8; exact fields_k8 S _ _ _ _ _ _ _ _ _ _ _ _ F.is F.rs F.bs F.nm
  by_cases e7 : k = 7
  · subst e7
    refine fields_k7 S _ _ _ _ _ _ _ _ _ _ _ _ (fun hr => ?_) F.is F.rs F.bs F.nm
    obtain ⟨x, hx⟩ : ∃ x, t.rs = [x] := List.length_eq_one_iff.1 hr
    obtain ⟨g, off, vs, e, c, hi⟩ := q2.get (j := 0) (t := x) (by rw [hx]; rfl)
    obtain ⟨ia', ic', ra', rc', ba', bc', rfl, _⟩ := hi.vals
    refine ⟨g, off, e, ?_⟩
    have := c 0 _ rfl
    have hrk : restK t = x.k := by unfold restK; rw [hx]
    rw [hrk]
    simpa using this
  · exact fields_ko S _ _ _ _ _ _ _ _ _ _ _ _ _ ⟨e1, e2, e3, e4, e5, e6, e7, e8⟩ F.is F.rs F.bs F.nm

end
end Go.Proofs.YtlgogflhjpcmlaaDoor
