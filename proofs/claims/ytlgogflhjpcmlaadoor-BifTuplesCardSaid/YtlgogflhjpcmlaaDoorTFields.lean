/-
  tree.fields: has a term just the fields that its kind has? A kind a theorem. (Written by wip/gen/gen_fields.py.)
-/
import Derived.Test.YtlgogflhjpcmlaaDoorTCopy
import Derived.BigQuiet
import Derived.Deep.QuietTactic
import Derived.StillTail
import Derived.StillTailTactics
namespace Go.Proofs.YtlgogflhjpcmlaaDoor
open Go.RowKit
set_option maxHeartbeats 2000000
set_option linter.unusedVariables false

def restK (t : T) : Int := match t.rs with | x :: _ => x.k | [] => 0
/-- the fields of a term, as numbers: kind, number, the name's length, how many items, rests, bytes, the rest's kind -/
def fldB (k n : Int) (ns ni nr nb : Nat) (rk : Int) : Bool :=
  if k = 3 ∨ k = 4 then decide (0 ≤ n ∧ n < 1152921504606846976 ∧ ns = 0 ∧ ni + nr + nb = 0)
  else if k = 1 then decide (ns = 0 ∧ ni + nr + nb = 0)
  else if k = 2 then decide (n = 0 ∧ 1 ≤ ns ∧ ns ≤ 255 ∧ ni + nr + nb = 0)
  else if k = 6 then decide (n = 0 ∧ ns = 0 ∧ ni + nr + nb = 0)
  else if k = 5 then decide (n = 0 ∧ ns = 0 ∧ nr + nb = 0)
  else if k = 7 then decide (ni ≠ 0 ∧ nr ≤ 1 ∧ (nr = 1 → rk ≠ 7 ∧ rk ≠ 6) ∧ n = 0 ∧ ns = 0 ∧ nb = 0)
  else if k = 8 then decide (n = 0 ∧ ns = 0 ∧ ni + nr = 0)
  else false
def flds (t : T) : Bool := fldB t.k t.n t.nm.size t.is.length t.rs.length t.bs.length (restK t)
theorem size0 {s : ByteArray} (h : s.size = 0) : s = ByteArray.empty := by
  obtain ⟨⟨l⟩⟩ := s
  cases l with
  | nil => rfl
  | cons a l => simp [ByteArray.size] at h
theorem size1 {s : ByteArray} (h : ¬ s.size = 0) : s.toList.isEmpty = false ∧ True ∧ ¬ s.toList = [] := by
  have h2 : ¬ s.toList = [] := fun q => h (by
    have : s.data.toList = [] := by rw [← ByteArray.toList_eq]; exact q
    obtain ⟨⟨l⟩⟩ := s
    simp only at this
    subst this
    rfl)
  exact ⟨by cases hl : s.toList <;> simp_all, trivial, h2⟩
section
variable {W w : World} {L : List HP} {h : Nat → Option Obj}

set_option maxRecDepth 100000 in
theorem fields_k3 (S : Sat W w (arch h :: L)) (n : Int) (nm : ByteArray) (ia ra ba : Option Addr) (ni nr nb ic rc bc : Nat) (rk : Int) (h1 : ni ≤ 1353245080300) (h2 : nr ≤ 1353245080300) (h3 : nb ≤ 140737488351232) (h4 : nm.size ≤ 140737488351232) :
    Calls Tryd.prog 65 #[.agg #[.int .i64 3, .int .i64 n, .string nm, .slice ia ni ic, .slice ra nr rc, .slice ba nb bc]] w fun e w' => e = .returned (.bool (fldB 3 n nm.size ni nr nb rk)) ∧ Sat W w' (arch h :: L) := by
  have S1 := hid (S.alloc' (.cells #[.int .i64 3, .int .i64 n, .string nm, .slice ia ni ic, .slice ra nr rc, .slice ba nb bc] 35))
  clear S

  by_cases g0 : 0 ≤ n
  · skip
    by_cases g1 : n < 1152921504606846976
    · skip
      by_cases g2 : nm.size = 0
      · skip
        by_cases g3 : ni + nr + nb = 0
        · skip
          have hb : fldB 3 n nm.size ni nr nb rk = true := (show _ = decide (0 ≤ n ∧ n < 1152921504606846976 ∧ nm.size = 0 ∧ ni + nr + nb = 0) from rfl).trans (decide_eq_true (by omega))
          rw [hb]
          clear hb
          obtain rfl := size0 g2
          obtain rfl : ni = 0 := by omega
          obtain rfl : nr = 0 := by omega
          obtain rfl : nb = 0 := by omega
          go_enter Tryd.func65, Tryd.ntmps65
          go_wp2_with fail
          go_quiet (fail)
          go_wp2_with fail
          go_ret
          exact ⟨rfl, S1.out.drewN _⟩
        · skip
          have hb : fldB 3 n nm.size ni nr nb rk = false := (show _ = decide (0 ≤ n ∧ n < 1152921504606846976 ∧ nm.size = 0 ∧ ni + nr + nb = 0) from rfl).trans (decide_eq_false (by omega))
          rw [hb]
          clear hb
          have g3b : ((ni : Int) + nr + nb == 0) = false := by simp; omega
          obtain rfl := size0 g2
          go_enter Tryd.func65, Tryd.ntmps65
          go_wp2_with fail
          go_quiet (fail)
          go_wp2_with fail
          go_ret
          exact ⟨rfl, S1.out.drewN _⟩
      · skip
        have hb : fldB 3 n nm.size ni nr nb rk = false := (show _ = decide (0 ≤ n ∧ n < 1152921504606846976 ∧ nm.size = 0 ∧ ni + nr + nb = 0) from rfl).trans (decide_eq_false (by omega))
        rw [hb]
        clear hb
        obtain ⟨g21, g22, g23⟩ := size1 g2
        go_enter Tryd.func65, Tryd.ntmps65
        go_wp2_with fail
        go_quiet (fail)
        go_wp2_with fail
        go_ret
        exact ⟨rfl, S1.out.drewN _⟩
    · skip
      have hb : fldB 3 n nm.size ni nr nb rk = false := (show _ = decide (0 ≤ n ∧ n < 1152921504606846976 ∧ nm.size = 0 ∧ ni + nr + nb = 0) from rfl).trans (decide_eq_false (by omega))
      rw [hb]
      clear hb
      have g1b : 1152921504606846976 ≤ n := by omega
      go_enter Tryd.func65, Tryd.ntmps65
      go_wp2_with fail
      go_quiet (fail)
      go_wp2_with fail
      go_ret
      exact ⟨rfl, S1.out.drewN _⟩
  · skip
    have hb : fldB 3 n nm.size ni nr nb rk = false := (show _ = decide (0 ≤ n ∧ n < 1152921504606846976 ∧ nm.size = 0 ∧ ni + nr + nb = 0) from rfl).trans (decide_eq_false (by omega))
    rw [hb]
    clear hb
    have g0b : n < 0 := by omega
    go_enter Tryd.func65, Tryd.ntmps65
    go_wp2_with fail
    go_quiet (fail)
    go_wp2_with fail
    go_ret
    exact ⟨rfl, S1.out.drewN _⟩

set_option maxRecDepth 100000 in
theorem fields_k4 (S : Sat W w (arch h :: L)) (n : Int) (nm : ByteArray) (ia ra ba : Option Addr) (ni nr nb ic rc bc : Nat) (rk : Int) (h1 : ni ≤ 1353245080300) (h2 : nr ≤ 1353245080300) (h3 : nb ≤ 140737488351232) (h4 : nm.size ≤ 140737488351232) :
    Calls Tryd.prog 65 #[.agg #[.int .i64 4, .int .i64 n, .string nm, .slice ia ni ic, .slice ra nr rc, .slice ba nb bc]] w fun e w' => e = .returned (.bool (fldB 4 n nm.size ni nr nb rk)) ∧ Sat W w' (arch h :: L) := by
  have S1 := hid (S.alloc' (.cells #[.int .i64 4, .int .i64 n, .string nm, .slice ia ni ic, .slice ra nr rc, .slice ba nb bc] 35))
  clear S

  by_cases g0 : 0 ≤ n
  · skip
    by_cases g1 : n < 1152921504606846976
    · skip
      by_cases g2 : nm.size = 0
      · skip
        by_cases g3 : ni + nr + nb = 0
        · skip
          have hb : fldB 4 n nm.size ni nr nb rk = true := (show _ = decide (0 ≤ n ∧ n < 1152921504606846976 ∧ nm.size = 0 ∧ ni + nr + nb = 0) from rfl).trans (decide_eq_true (by omega))
          rw [hb]
          clear hb
          obtain rfl := size0 g2
          obtain rfl : ni = 0 := by omega
          obtain rfl : nr = 0 := by omega
          obtain rfl : nb = 0 := by omega
          go_enter Tryd.func65, Tryd.ntmps65
          go_wp2_with fail
          go_quiet (fail)
          go_wp2_with fail
          go_ret
          exact ⟨rfl, S1.out.drewN _⟩
        · skip
          have hb : fldB 4 n nm.size ni nr nb rk = false := (show _ = decide (0 ≤ n ∧ n < 1152921504606846976 ∧ nm.size = 0 ∧ ni + nr + nb = 0) from rfl).trans (decide_eq_false (by omega))
          rw [hb]
          clear hb
          have g3b : ((ni : Int) + nr + nb == 0) = false := by simp; omega
          obtain rfl := size0 g2
          go_enter Tryd.func65, Tryd.ntmps65
          go_wp2_with fail
          go_quiet (fail)
          go_wp2_with fail
          go_ret
          exact ⟨rfl, S1.out.drewN _⟩
      · skip
        have hb : fldB 4 n nm.size ni nr nb rk = false := (show _ = decide (0 ≤ n ∧ n < 1152921504606846976 ∧ nm.size = 0 ∧ ni + nr + nb = 0) from rfl).trans (decide_eq_false (by omega))
        rw [hb]
        clear hb
        obtain ⟨g21, g22, g23⟩ := size1 g2
        go_enter Tryd.func65, Tryd.ntmps65
        go_wp2_with fail
        go_quiet (fail)
        go_wp2_with fail
        go_ret
        exact ⟨rfl, S1.out.drewN _⟩
    · skip
      have hb : fldB 4 n nm.size ni nr nb rk = false := (show _ = decide (0 ≤ n ∧ n < 1152921504606846976 ∧ nm.size = 0 ∧ ni + nr + nb = 0) from rfl).trans (decide_eq_false (by omega))
      rw [hb]
      clear hb
      have g1b : 1152921504606846976 ≤ n := by omega
      go_enter Tryd.func65, Tryd.ntmps65
      go_wp2_with fail
      go_quiet (fail)
      go_wp2_with fail
      go_ret
      exact ⟨rfl, S1.out.drewN _⟩
  · skip
    have hb : fldB 4 n nm.size ni nr nb rk = false := (show _ = decide (0 ≤ n ∧ n < 1152921504606846976 ∧ nm.size = 0 ∧ ni + nr + nb = 0) from rfl).trans (decide_eq_false (by omega))
    rw [hb]
    clear hb
    have g0b : n < 0 := by omega
    go_enter Tryd.func65, Tryd.ntmps65
    go_wp2_with fail
    go_quiet (fail)
    go_wp2_with fail
    go_ret
    exact ⟨rfl, S1.out.drewN _⟩

set_option maxRecDepth 100000 in
theorem fields_k1 (S : Sat W w (arch h :: L)) (n : Int) (nm : ByteArray) (ia ra ba : Option Addr) (ni nr nb ic rc bc : Nat) (rk : Int) (h1 : ni ≤ 1353245080300) (h2 : nr ≤ 1353245080300) (h3 : nb ≤ 140737488351232) (h4 : nm.size ≤ 140737488351232) :
    Calls Tryd.prog 65 #[.agg #[.int .i64 1, .int .i64 n, .string nm, .slice ia ni ic, .slice ra nr rc, .slice ba nb bc]] w fun e w' => e = .returned (.bool (fldB 1 n nm.size ni nr nb rk)) ∧ Sat W w' (arch h :: L) := by
  have S1 := hid (S.alloc' (.cells #[.int .i64 1, .int .i64 n, .string nm, .slice ia ni ic, .slice ra nr rc, .slice ba nb bc] 35))
  clear S

  by_cases g0 : nm.size = 0
  · skip
    by_cases g1 : ni + nr + nb = 0
    · skip
      have hb : fldB 1 n nm.size ni nr nb rk = true := (show _ = decide (nm.size = 0 ∧ ni + nr + nb = 0) from rfl).trans (decide_eq_true (by omega))
      rw [hb]
      clear hb
      obtain rfl := size0 g0
      obtain rfl : ni = 0 := by omega
      obtain rfl : nr = 0 := by omega
      obtain rfl : nb = 0 := by omega
      go_enter Tryd.func65, Tryd.ntmps65
      go_wp2_with fail
      go_quiet (fail)
      go_wp2_with fail
      go_ret
      exact ⟨rfl, S1.out.drewN _⟩
    · skip
      have hb : fldB 1 n nm.size ni nr nb rk = false := (show _ = decide (nm.size = 0 ∧ ni + nr + nb = 0) from rfl).trans (decide_eq_false (by omega))
      rw [hb]
      clear hb
      have g1b : ((ni : Int) + nr + nb == 0) = false := by simp; omega
      obtain rfl := size0 g0
      go_enter Tryd.func65, Tryd.ntmps65
      go_wp2_with fail
      go_quiet (fail)
      go_wp2_with fail
      go_ret
      exact ⟨rfl, S1.out.drewN _⟩
  · skip
    have hb : fldB 1 n nm.size ni nr nb rk = false := (show _ = decide (nm.size = 0 ∧ ni + nr + nb = 0) from rfl).trans (decide_eq_false (by omega))
    rw [hb]
    clear hb
    obtain ⟨g01, g02, g03⟩ := size1 g0
    go_enter Tryd.func65, Tryd.ntmps65
    go_wp2_with fail
    go_quiet (fail)
    go_wp2_with fail
    go_ret
    exact ⟨rfl, S1.out.drewN _⟩

set_option maxRecDepth 100000 in
theorem fields_k2 (S : Sat W w (arch h :: L)) (n : Int) (nm : ByteArray) (ia ra ba : Option Addr) (ni nr nb ic rc bc : Nat) (rk : Int) (h1 : ni ≤ 1353245080300) (h2 : nr ≤ 1353245080300) (h3 : nb ≤ 140737488351232) (h4 : nm.size ≤ 140737488351232) :
    Calls Tryd.prog 65 #[.agg #[.int .i64 2, .int .i64 n, .string nm, .slice ia ni ic, .slice ra nr rc, .slice ba nb bc]] w fun e w' => e = .returned (.bool (fldB 2 n nm.size ni nr nb rk)) ∧ Sat W w' (arch h :: L) := by
  have S1 := hid (S.alloc' (.cells #[.int .i64 2, .int .i64 n, .string nm, .slice ia ni ic, .slice ra nr rc, .slice ba nb bc] 35))
  clear S

  by_cases g0 : n = 0
  · skip
    by_cases g1 : 1 ≤ nm.size
    · skip
      by_cases g2 : nm.size ≤ 255
      · skip
        by_cases g3 : ni + nr + nb = 0
        · skip
          have hb : fldB 2 n nm.size ni nr nb rk = true := (show _ = decide (n = 0 ∧ 1 ≤ nm.size ∧ nm.size ≤ 255 ∧ ni + nr + nb = 0) from rfl).trans (decide_eq_true (by omega))
          rw [hb]
          clear hb
          subst g0
          obtain rfl : ni = 0 := by omega
          obtain rfl : nr = 0 := by omega
          obtain rfl : nb = 0 := by omega
          go_enter Tryd.func65, Tryd.ntmps65
          go_wp2_with fail
          go_quiet (fail)
          go_wp2_with fail
          go_ret
          exact ⟨rfl, S1.out.drewN _⟩
        · skip
          have hb : fldB 2 n nm.size ni nr nb rk = false := (show _ = decide (n = 0 ∧ 1 ≤ nm.size ∧ nm.size ≤ 255 ∧ ni + nr + nb = 0) from rfl).trans (decide_eq_false (by omega))
          rw [hb]
          clear hb
          have g3b : ((ni : Int) + nr + nb == 0) = false := by simp; omega
          subst g0
          go_enter Tryd.func65, Tryd.ntmps65
          go_wp2_with fail
          go_quiet (fail)
          go_wp2_with fail
          go_ret
          exact ⟨rfl, S1.out.drewN _⟩
      · skip
        have hb : fldB 2 n nm.size ni nr nb rk = false := (show _ = decide (n = 0 ∧ 1 ≤ nm.size ∧ nm.size ≤ 255 ∧ ni + nr + nb = 0) from rfl).trans (decide_eq_false (by omega))
        rw [hb]
        clear hb
        subst g0
        go_enter Tryd.func65, Tryd.ntmps65
        go_wp2_with fail
        go_quiet (fail)
        go_wp2_with fail
        go_ret
        exact ⟨rfl, S1.out.drewN _⟩
    · skip
      have hb : fldB 2 n nm.size ni nr nb rk = false := (show _ = decide (n = 0 ∧ 1 ≤ nm.size ∧ nm.size ≤ 255 ∧ ni + nr + nb = 0) from rfl).trans (decide_eq_false (by omega))
      rw [hb]
      clear hb
      subst g0
      go_enter Tryd.func65, Tryd.ntmps65
      go_wp2_with fail
      go_quiet (fail)
      go_wp2_with fail
      go_ret
      exact ⟨rfl, S1.out.drewN _⟩
  · skip
    have hb : fldB 2 n nm.size ni nr nb rk = false := (show _ = decide (n = 0 ∧ 1 ≤ nm.size ∧ nm.size ≤ 255 ∧ ni + nr + nb = 0) from rfl).trans (decide_eq_false (by omega))
    rw [hb]
    clear hb
    have g0b : (n == 0) = false := by simpa using g0
    go_enter Tryd.func65, Tryd.ntmps65
    go_wp2_with fail
    go_quiet (fail)
    go_wp2_with fail
    go_ret
    exact ⟨rfl, S1.out.drewN _⟩

set_option maxRecDepth 100000 in
theorem fields_k6 (S : Sat W w (arch h :: L)) (n : Int) (nm : ByteArray) (ia ra ba : Option Addr) (ni nr nb ic rc bc : Nat) (rk : Int) (h1 : ni ≤ 1353245080300) (h2 : nr ≤ 1353245080300) (h3 : nb ≤ 140737488351232) (h4 : nm.size ≤ 140737488351232) :
    Calls Tryd.prog 65 #[.agg #[.int .i64 6, .int .i64 n, .string nm, .slice ia ni ic, .slice ra nr rc, .slice ba nb bc]] w fun e w' => e = .returned (.bool (fldB 6 n nm.size ni nr nb rk)) ∧ Sat W w' (arch h :: L) := by
  have S1 := hid (S.alloc' (.cells #[.int .i64 6, .int .i64 n, .string nm, .slice ia ni ic, .slice ra nr rc, .slice ba nb bc] 35))
  clear S

  by_cases g0 : n = 0
  · skip
    by_cases g1 : nm.size = 0
    · skip
      by_cases g2 : ni + nr + nb = 0
      · skip
        have hb : fldB 6 n nm.size ni nr nb rk = true := (show _ = decide (n = 0 ∧ nm.size = 0 ∧ ni + nr + nb = 0) from rfl).trans (decide_eq_true (by omega))
        rw [hb]
        clear hb
        subst g0
        obtain rfl := size0 g1
        obtain rfl : ni = 0 := by omega
        obtain rfl : nr = 0 := by omega
        obtain rfl : nb = 0 := by omega
        go_enter Tryd.func65, Tryd.ntmps65
        go_wp2_with fail
        go_quiet (fail)
        go_wp2_with fail
        go_ret
        exact ⟨rfl, S1.out.drewN _⟩
      · skip
        have hb : fldB 6 n nm.size ni nr nb rk = false := (show _ = decide (n = 0 ∧ nm.size = 0 ∧ ni + nr + nb = 0) from rfl).trans (decide_eq_false (by omega))
        rw [hb]
        clear hb
        have g2b : ((nb : Int) + ni + nr == 0) = false := by simp; omega
        subst g0
        obtain rfl := size0 g1
        go_enter Tryd.func65, Tryd.ntmps65
        go_wp2_with fail
        go_quiet (fail)
        go_wp2_with fail
        go_ret
        exact ⟨rfl, S1.out.drewN _⟩
    · skip
      have hb : fldB 6 n nm.size ni nr nb rk = false := (show _ = decide (n = 0 ∧ nm.size = 0 ∧ ni + nr + nb = 0) from rfl).trans (decide_eq_false (by omega))
      rw [hb]
      clear hb
      obtain ⟨g11, g12, g13⟩ := size1 g1
      subst g0
      go_enter Tryd.func65, Tryd.ntmps65
      go_wp2_with fail
      go_quiet (fail)
      go_wp2_with fail
      go_ret
      exact ⟨rfl, S1.out.drewN _⟩
  · skip
    have hb : fldB 6 n nm.size ni nr nb rk = false := (show _ = decide (n = 0 ∧ nm.size = 0 ∧ ni + nr + nb = 0) from rfl).trans (decide_eq_false (by omega))
    rw [hb]
    clear hb
    have g0b : (n == 0) = false := by simpa using g0
    go_enter Tryd.func65, Tryd.ntmps65
    go_wp2_with fail
    go_quiet (fail)
    go_wp2_with fail
    go_ret
    exact ⟨rfl, S1.out.drewN _⟩

set_option maxRecDepth 100000 in
theorem fields_k5 (S : Sat W w (arch h :: L)) (n : Int) (nm : ByteArray) (ia ra ba : Option Addr) (ni nr nb ic rc bc : Nat) (rk : Int) (h1 : ni ≤ 1353245080300) (h2 : nr ≤ 1353245080300) (h3 : nb ≤ 140737488351232) (h4 : nm.size ≤ 140737488351232) :
    Calls Tryd.prog 65 #[.agg #[.int .i64 5, .int .i64 n, .string nm, .slice ia ni ic, .slice ra nr rc, .slice ba nb bc]] w fun e w' => e = .returned (.bool (fldB 5 n nm.size ni nr nb rk)) ∧ Sat W w' (arch h :: L) := by
  have S1 := hid (S.alloc' (.cells #[.int .i64 5, .int .i64 n, .string nm, .slice ia ni ic, .slice ra nr rc, .slice ba nb bc] 35))
  clear S

  by_cases g0 : n = 0
  · skip
    by_cases g1 : nm.size = 0
    · skip
      by_cases g2 : nr + nb = 0
      · skip
        have hb : fldB 5 n nm.size ni nr nb rk = true := (show _ = decide (n = 0 ∧ nm.size = 0 ∧ nr + nb = 0) from rfl).trans (decide_eq_true (by omega))
        rw [hb]
        clear hb
        subst g0
        obtain rfl := size0 g1
        obtain rfl : nr = 0 := by omega
        obtain rfl : nb = 0 := by omega
        go_enter Tryd.func65, Tryd.ntmps65
        go_wp2_with fail
        go_quiet (fail)
        go_wp2_with fail
        go_ret
        exact ⟨rfl, S1.out.drewN _⟩
      · skip
        have hb : fldB 5 n nm.size ni nr nb rk = false := (show _ = decide (n = 0 ∧ nm.size = 0 ∧ nr + nb = 0) from rfl).trans (decide_eq_false (by omega))
        rw [hb]
        clear hb
        have g2b : ((nb : Int) + nr == 0) = false := by simp; omega
        subst g0
        obtain rfl := size0 g1
        go_enter Tryd.func65, Tryd.ntmps65
        go_wp2_with fail
        go_quiet (fail)
        go_wp2_with fail
        go_ret
        exact ⟨rfl, S1.out.drewN _⟩
    · skip
      have hb : fldB 5 n nm.size ni nr nb rk = false := (show _ = decide (n = 0 ∧ nm.size = 0 ∧ nr + nb = 0) from rfl).trans (decide_eq_false (by omega))
      rw [hb]
      clear hb
      obtain ⟨g11, g12, g13⟩ := size1 g1
      subst g0
      go_enter Tryd.func65, Tryd.ntmps65
      go_wp2_with fail
      go_quiet (fail)
      go_wp2_with fail
      go_ret
      exact ⟨rfl, S1.out.drewN _⟩
  · skip
    have hb : fldB 5 n nm.size ni nr nb rk = false := (show _ = decide (n = 0 ∧ nm.size = 0 ∧ nr + nb = 0) from rfl).trans (decide_eq_false (by omega))
    rw [hb]
    clear hb
    have g0b : (n == 0) = false := by simpa using g0
    go_enter Tryd.func65, Tryd.ntmps65
    go_wp2_with fail
    go_quiet (fail)
    go_wp2_with fail
    go_ret
    exact ⟨rfl, S1.out.drewN _⟩

set_option maxRecDepth 100000 in
theorem fields_k8 (S : Sat W w (arch h :: L)) (n : Int) (nm : ByteArray) (ia ra ba : Option Addr) (ni nr nb ic rc bc : Nat) (rk : Int) (h1 : ni ≤ 1353245080300) (h2 : nr ≤ 1353245080300) (h3 : nb ≤ 140737488351232) (h4 : nm.size ≤ 140737488351232) :
    Calls Tryd.prog 65 #[.agg #[.int .i64 8, .int .i64 n, .string nm, .slice ia ni ic, .slice ra nr rc, .slice ba nb bc]] w fun e w' => e = .returned (.bool (fldB 8 n nm.size ni nr nb rk)) ∧ Sat W w' (arch h :: L) := by
  have S1 := hid (S.alloc' (.cells #[.int .i64 8, .int .i64 n, .string nm, .slice ia ni ic, .slice ra nr rc, .slice ba nb bc] 35))
  clear S

  by_cases g0 : n = 0
  · skip
    by_cases g1 : nm.size = 0
    · skip
      by_cases g2 : ni + nr = 0
      · skip
        have hb : fldB 8 n nm.size ni nr nb rk = true := (show _ = decide (n = 0 ∧ nm.size = 0 ∧ ni + nr = 0) from rfl).trans (decide_eq_true (by omega))
        rw [hb]
        clear hb
        subst g0
        obtain rfl := size0 g1
        obtain rfl : ni = 0 := by omega
        obtain rfl : nr = 0 := by omega
        go_enter Tryd.func65, Tryd.ntmps65
        go_wp2_with fail
        go_quiet (fail)
        go_wp2_with fail
        go_ret
        exact ⟨rfl, S1.out.drewN _⟩
      · skip
        have hb : fldB 8 n nm.size ni nr nb rk = false := (show _ = decide (n = 0 ∧ nm.size = 0 ∧ ni + nr = 0) from rfl).trans (decide_eq_false (by omega))
        rw [hb]
        clear hb
        have g2b : ((ni : Int) + nr == 0) = false := by simp; omega
        subst g0
        obtain rfl := size0 g1
        go_enter Tryd.func65, Tryd.ntmps65
        go_wp2_with fail
        go_quiet (fail)
        go_wp2_with fail
        go_ret
        exact ⟨rfl, S1.out.drewN _⟩
    · skip
      have hb : fldB 8 n nm.size ni nr nb rk = false := (show _ = decide (n = 0 ∧ nm.size = 0 ∧ ni + nr = 0) from rfl).trans (decide_eq_false (by omega))
      rw [hb]
      clear hb
      obtain ⟨g11, g12, g13⟩ := size1 g1
      subst g0
      go_enter Tryd.func65, Tryd.ntmps65
      go_wp2_with fail
      go_quiet (fail)
      go_wp2_with fail
      go_ret
      exact ⟨rfl, S1.out.drewN _⟩
  · skip
    have hb : fldB 8 n nm.size ni nr nb rk = false := (show _ = decide (n = 0 ∧ nm.size = 0 ∧ ni + nr = 0) from rfl).trans (decide_eq_false (by omega))
    rw [hb]
    clear hb
    have g0b : (n == 0) = false := by simpa using g0
    go_enter Tryd.func65, Tryd.ntmps65
    go_wp2_with fail
    go_quiet (fail)
    go_wp2_with fail
    go_ret
    exact ⟨rfl, S1.out.drewN _⟩

set_option maxRecDepth 100000 in
theorem fields_ko (S : Sat W w (arch h :: L)) (k n : Int) (nm : ByteArray) (ia ra ba : Option Addr) (ni nr nb ic rc bc : Nat) (rk : Int) (hk : k ≠ 1 ∧ k ≠ 2 ∧ k ≠ 3 ∧ k ≠ 4 ∧ k ≠ 5 ∧ k ≠ 6 ∧ k ≠ 7 ∧ k ≠ 8) (h1 : ni ≤ 1353245080300) (h2 : nr ≤ 1353245080300) (h3 : nb ≤ 140737488351232) (h4 : nm.size ≤ 140737488351232) :
    Calls Tryd.prog 65 #[.agg #[.int .i64 k, .int .i64 n, .string nm, .slice ia ni ic, .slice ra nr rc, .slice ba nb bc]] w fun e w' => e = .returned (.bool (fldB k n nm.size ni nr nb rk)) ∧ Sat W w' (arch h :: L) := by
  have S1 := hid (S.alloc' (.cells #[.int .i64 k, .int .i64 n, .string nm, .slice ia ni ic, .slice ra nr rc, .slice ba nb bc] 35))
  clear S

  have hb : fldB k n nm.size ni nr nb rk = false := by unfold fldB; simp [hk]
  rw [hb]
  have q1 : (k == 1) = false := by simp; omega
  have q2 : (k == 2) = false := by simp; omega
  have q3 : (k == 3) = false := by simp; omega
  have q4 : (k == 4) = false := by simp; omega
  have q5 : (k == 5) = false := by simp; omega
  have q6 : (k == 6) = false := by simp; omega
  have q7 : (k == 7) = false := by simp; omega
  have q8 : (k == 8) = false := by simp; omega
  clear hb hk
  go_enter Tryd.func65, Tryd.ntmps65
  go_wp2_with fail
  go_quiet (fail)
  go_wp2_with fail
  go_ret
  exact ⟨rfl, S1.out.drewN _⟩

end
end Go.Proofs.YtlgogflhjpcmlaaDoor
