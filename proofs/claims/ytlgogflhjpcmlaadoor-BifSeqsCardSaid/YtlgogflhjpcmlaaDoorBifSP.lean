/-
  Lists of numbers: they may be, their length and their sum. No program in sight.
-/
import Derived.Test.YtlgogflhjpcmlaaDoorBifS
import Derived.Test.YtlgogflhjpcmlaaDoorBifL
namespace Go.Proofs.YtlgogflhjpcmlaaDoor
open Go.RowKit
theorem num_chk (d : Nat) (n : Int) (p b : Nat) (hp : p + 1 + b ≤ 65536) (hd : d ≤ 200) : chk d (tN n) p b = ((p + 1, b), none) := by
  have h0 : chk0 d (tN n) p b = none := by
    unfold chk0
    have ha : addB (tN n) = 0 := rfl
    have hf : flds (tN n) = true := rfl
    rw [if_neg (by rw [ha]; omega), if_neg (by rw [hf]; simp)]
  rw [chk_eq, h0]
  rfl
theorem nums_chk (d : Nat) (hd : d ≤ 200) (f : Nat → Int) : ∀ (l : List Nat) (p : Nat), p + l.length ≤ 65536 → chkL d (l.map fun i => tN (f i)) p 0 = ((p + l.length, 0), none)
  | [], p, _ => rfl
  | i :: l, p, hp => by
    rw [List.length_cons] at hp
    rw [List.map_cons, chkL, num_chk d _ p 0 (by omega) hd]
    show chkL d (l.map fun i => tN (f i)) (p + 1) 0 = _
    rw [nums_chk d hd f l (p + 1) (by omega), List.length_cons]
    congr 2
    omega
def numsT (f : Nat → Int) (N : Nat) : T := makeF ((List.range N).map fun i => tN (f i)) tNil
theorem nums_nil (f : Nat → Int) : numsT f 0 = tNil := rfl
theorem nums_eq (f : Nat → Int) {N : Nat} (h0 : N ≠ 0) : numsT f N = .mk 7 0 ⟨#[]⟩ ((List.range N).map fun i => tN (f i)) [] [] := by
  unfold numsT makeF
  simp [h0, tNil, T.k]
theorem nums_right (f : Nat → Int) (N : Nat) (hN : N ≤ 60000) : rightOf (numsT f N) = none := by
  by_cases h0 : N = 0
  · subst h0; rfl
  · rw [nums_eq f h0]
    unfold rightOf
    have hc : chk0 1 (.mk 7 0 ⟨#[]⟩ ((List.range N).map fun i => tN (f i)) [] []) 0 0 = none := by
      unfold chk0
      have ha : addB (.mk 7 0 ⟨#[]⟩ ((List.range N).map fun i => tN (f i)) [] []) = 0 := rfl
      have hf : flds (.mk 7 0 ⟨#[]⟩ ((List.range N).map fun i => tN (f i)) [] []) = true := by
        unfold flds fldB
        have hl : ((List.range N).map fun i => tN (f i)).length ≠ 0 := by simpa using h0
        simp only [T.k, T.n, T.nm, T.is, T.rs, T.bs]
        rw [if_neg (by decide), if_neg (by decide), if_neg (by decide), if_neg (by decide), if_neg (by decide), if_pos trivial]
        simp
        exact ⟨h0, rfl⟩
      rw [if_neg (by rw [ha]; omega), if_neg (by rw [hf]; simp)]
    rw [chk_eq, hc]
    show (match chkL 2 ((List.range N).map fun i => tN (f i)) 1 0 with | (s, some e) => (s, some e) | (s, none) => chkL 2 [] s.1 s.2).2 = none
    rw [nums_chk 2 (by omega) f (List.range N) 1 (by rw [List.length_range]; omega)]
    rfl
theorem nums_ok (f : Nat → Int) (N : Nat) (hN : N ≤ 60000) (hf : ∀ i, i < N → fits (f i)) : TOk (numsT f N) := by
  by_cases h0 : N = 0
  · subst h0
    rw [nums_nil]
    unfold tNil TOk
    exact ⟨by unfold fits; omega, by unfold fits; omega, by decide, by decide, by decide, by decide, by simp, by simp [LOk], by simp [LOk]⟩
  · rw [nums_eq f h0]
    unfold TOk
    refine ⟨by unfold fits; omega, by unfold fits; omega, by decide, by rw [List.length_map, List.length_range]; omega, by decide, by decide, by simp, LOk.of ?_, by simp [LOk]⟩
    intro t ht
    obtain ⟨i, hi, rfl⟩ := List.mem_map.1 ht
    exact (num_N (hf i (List.mem_range.1 hi))).2.1
theorem sum_range (x : Int) : ∀ N : Nat, ∃ s : Int, 2 * s = (N : Int) * (N - 1) ∧ sumF ((List.range N).map fun (i : Nat) => tN (x + (i : Int))) 0 = wrap64 ((N : Int) * x + s)
  | 0 => ⟨0, by simp, by simp [sumF]; decide +kernel⟩
  | N + 1 => by
    obtain ⟨s, hs, e⟩ := sum_range x N
    refine ⟨s + N, ?_, ?_⟩
    · have : ((N + 1 : Nat) : Int) * (((N + 1 : Nat) : Int) - 1) = (N : Int) * (N - 1) + 2 * N := by
        push_cast
        rw [Int.add_sub_cancel, Int.add_mul, Int.one_mul, Int.mul_sub, Int.mul_one]
        omega
      rw [this, ← hs]; omega
    · rw [List.range_succ, List.map_append, List.map_cons, List.map_nil, sumF_snoc, e]
      show wrap64 (wrap64 ((N : Int) * x + s) + (x + (N : Int))) = _
      obtain ⟨q, hq⟩ := w_mod ((N : Int) * x + s)
      rw [hq]
      refine w_eq (q := q) ?_
      have : ((N + 1 : Nat) : Int) * x = (N : Int) * x + x := by push_cast; rw [Int.add_mul]; simp
      rw [this]; omega
end Go.Proofs.YtlgogflhjpcmlaaDoor
