/-
  bif: proper, place. (Written by wip/gen/gen_bifp.py.)
-/
import Derived.Test.YtlgogflhjpcmlaaDoorBifQ
import Derived.Test.YtlgogflhjpcmlaaDoorBifW
import Derived.Deep.QuietTactic
namespace Go.Proofs.YtlgogflhjpcmlaaDoor
open Go.RowKit
set_option maxHeartbeats 4000000
set_option maxRecDepth 100000
section
variable {W w : World} {L : List HP} {h : Nat → Option Obj}
/-- is a term of kind k, with so many rests, a proper list? -/
def propB (k : Int) (nr : Nat) : Bool := k == 6 || k == 7 && nr == 0
theorem proper_any (S : Sat W w L) (k n : Int) (nm : ByteArray) (ia ra ba : Option Addr) (ni nr nb ic rc bc : Nat) (hr : nr ≤ 1353245080300) :
    Calls Tryd.prog 69 #[.agg #[.int .i64 k, .int .i64 n, .string nm, .slice ia ni ic, .slice ra nr rc, .slice ba nb bc]] w fun e w' => e = .returned (.tuple #[.slice ia ni ic, .bool (propB k nr)]) ∧ Sat W w' L := by
  have S1 := hid (S.alloc' (.cells #[.int .i64 k, .int .i64 n, .string nm, .slice ia ni ic, .slice ra nr rc, .slice ba nb bc] 35))
  obtain ⟨r, HR⟩ : ∃ r, Hid (propB k nr = r) := ⟨_, hid rfl⟩
  rw [HR.out]
  have key : (k = 6 ∧ r = true) ∨ (k = 7 ∧ nr = 0 ∧ r = true) ∨ (k = 7 ∧ (((nr : Int) == 0) = false) ∧ r = false) ∨ (((k == 6) = false) ∧ ((k == 7) = false) ∧ r = false) := by
    rw [← HR.out]
    unfold propB
    by_cases h6 : k = 6
    · exact .inl ⟨h6, by simp [h6]⟩
    · by_cases h7 : k = 7
      · by_cases h0 : nr = 0
        · exact .inr (.inl ⟨h7, h0, by simp [h7, h0]⟩)
        · exact .inr (.inr (.inl ⟨h7, by simpa using h0, by simp [h7, h0]⟩))
      · exact .inr (.inr (.inr ⟨by simpa using h6, by simpa using h7, by simp [h6, h7]⟩))
  clear S HR
  rcases key with ⟨rfl, rfl⟩ | ⟨rfl, rfl, rfl⟩ | ⟨rfl, b3, rfl⟩ | ⟨b1, b2, rfl⟩

  · go_enter Tryd.func69, Tryd.ntmps69
    go_upto_region 1 with fail
    go_quiet (fail)
    all_goals go_wp2_with fail
    all_goals go_ret2
    all_goals exact ⟨rfl, S1.out.drewN _⟩
  · go_enter Tryd.func69, Tryd.ntmps69
    go_upto_region 1 with fail
    go_quiet (fail)
    all_goals go_wp2_with fail
    all_goals go_ret2
    all_goals exact ⟨rfl, S1.out.drewN _⟩
  · go_enter Tryd.func69, Tryd.ntmps69
    go_upto_region 1 with fail
    go_quiet (fail)
    all_goals go_wp2_with fail
    all_goals go_ret2
    all_goals exact ⟨rfl, S1.out.drewN _⟩
  · go_enter Tryd.func69, Tryd.ntmps69
    go_upto_region 1 with fail
    go_quiet (fail)
    all_goals go_wp2_with fail
    all_goals go_ret2
    all_goals exact ⟨rfl, S1.out.drewN _⟩
/-- a number as a place -/
def placeO (k n first many : Int) : Int × Bool := if k = 1 ∧ first ≤ n ∧ n < first + many then (n - first, true) else (0, false)
theorem place_m (S : Sat W w L) (k n : Int) (nm : ByteArray) (v3 v4 v5 : Value) (first many : Int) (hf : 0 ≤ first ∧ first ≤ 1) (hm : 0 ≤ many ∧ many ≤ 140737488355328) :
    Calls Tryd.prog 68 #[.agg #[.int .i64 k, .int .i64 n, .string nm, v3, v4, v5], .int .i64 first, .int .i64 many] w fun e w' => e = .returned (.tuple #[.int .i64 (placeO k n first many).1, .bool (placeO k n first many).2]) ∧ Sat W w' L := by
  have S1 := hid (S.alloc' (.cells #[.int .i64 k, .int .i64 n, .string nm, v3, v4, v5] 35))
  have g1 : IntKind.i64.wrap (first + many) = first + many := by rw [wrapi]; unfold wrap64; omega
  have g2 : wrap64 (first + many) = first + many := (wrapi _).symm.trans g1
  obtain ⟨p, HP⟩ : ∃ p, Hid (placeO k n first many = p) := ⟨_, hid rfl⟩
  rw [HP.out]
  have key : ((k == 1) = false ∧ p = (0, false)) ∨ (k = 1 ∧ n < first ∧ p = (0, false)) ∨ (k = 1 ∧ ¬ n < first ∧ first + many ≤ n ∧ p = (0, false)) ∨ (k = 1 ∧ ¬ n < first ∧ ¬ first + many ≤ n ∧ p = (n - first, true)) := by
    rw [← HP.out]
    unfold placeO
    by_cases h1 : k = 1
    · by_cases h2 : n < first
      · exact .inr (.inl ⟨h1, h2, by rw [if_neg (by omega)]⟩)
      · by_cases h3 : first + many ≤ n
        · exact .inr (.inr (.inl ⟨h1, h2, h3, by rw [if_neg (by omega)]⟩))
        · exact .inr (.inr (.inr ⟨h1, h2, h3, by rw [if_pos (by omega)]⟩))
    · exact .inl ⟨by simpa using h1, by rw [if_neg (by omega)]⟩
  have o3 : IntKind.i64.wrap (n - first) = n - first ∨ n < first ∨ first + many ≤ n := by
    by_cases h2 : n < first
    · exact .inr (.inl h2)
    · by_cases h3 : first + many ≤ n
      · exact .inr (.inr h3)
      · exact .inl (by rw [wrapi]; unfold wrap64; omega)
  clear S HP
  rcases key with ⟨b1, rfl⟩ | ⟨rfl, b1, rfl⟩ | ⟨rfl, b1, b2, rfl⟩ | ⟨rfl, b1, b2, rfl⟩

  · skip
    clear o3
    have d1 : (k != 1) = true := by simpa using b1
    have d2 : ¬ k = 1 := by simpa using b1
    go_enter Tryd.func68, Tryd.ntmps68
    go_wp2_with fail
    go_ret2
    exact ⟨rfl, S1.out⟩
  · skip
    clear o3
    have d1 : decide (n < first) = true := by simpa using b1
    clear b1
    go_enter Tryd.func68, Tryd.ntmps68
    go_wp2_with fail
    go_ret2
    exact ⟨rfl, S1.out⟩
  · skip
    clear o3
    have d1 : decide (n < first) = false := by simpa using b1
    have d2 : decide (first + many ≤ n) = true := by simpa using b2
    clear b1 b2
    go_enter Tryd.func68, Tryd.ntmps68
    go_wp2_with fail
    go_ret2
    exact ⟨rfl, S1.out⟩
  · skip
    have g3 : IntKind.i64.wrap (n - first) = n - first := by rcases o3 with q | q | q; exact q; exact absurd q b1; exact absurd q b2
    have g4 : wrap64 (n - first) = n - first := (wrapi _).symm.trans g3
    clear o3
    have d1 : decide (n < first) = false := by simpa using b1
    have d2 : decide (first + many ≤ n) = false := by simpa using b2
    clear b1 b2
    go_enter Tryd.func68, Tryd.ntmps68
    go_wp2_with fail
    go_ret2
    exact ⟨rfl, S1.out⟩
end
end Go.Proofs.YtlgogflhjpcmlaaDoor
