/-
  What tree.Right finds: its kind is not OK. Plain.
-/
import Derived.Test.YteaabbghnfideaaDoorTRight
namespace Go.Proofs.YteaabbghnfideaaDoor
open Go.RowKit
set_option maxHeartbeats 2000000
theorem chk_kind (d : Nat) (t : T) : ∀ (p b : Nat) (s : Nat × Nat) (n : Nat) (k : Int), chk d t p b = (s, some (n, k)) → k ≠ 0 := by
  have key : ∀ (ts : List T), (∀ t ∈ ts, ∀ (d p b : Nat) (s : Nat × Nat) (n : Nat) (k : Int), chk d t p b = (s, some (n, k)) → k ≠ 0) → ∀ (d p b : Nat) (s : Nat × Nat) (n : Nat) (k : Int), chkL d ts p b = (s, some (n, k)) → k ≠ 0 := by
    intro ts
    induction ts with
    | nil => intro _ d p b s n k q; simp [chkL] at q
    | cons x xs ih =>
      intro f d p b s n k q
      rw [chkL] at q
      cases hx : chk d x p b with
      | mk s1 e =>
        rw [hx] at q
        cases e with
        | some e =>
          obtain ⟨n1, k1⟩ := e
          simp only [Prod.mk.injEq, Option.some.injEq] at q
          obtain ⟨_, rfl, rfl⟩ := q
          exact f x (by simp) d p b s1 _ _ hx
        | none => exact ih (fun t ht => f t (by simp [ht])) d s1.1 s1.2 s n k q
  induction t using T.ind generalizing d with
  | h k n nm is rs bs ih1 ih2 =>
    intro p b s n' k' q
    rw [chk_eq] at q
    cases h0 : chk0 d (.mk k n nm is rs bs) p b with
    | some e =>
      rw [h0] at q
      simp only [Prod.mk.injEq, Option.some.injEq] at q
      unfold chk0 at h0
      split at h0
      · simp only [Option.some.injEq] at h0
        rw [← h0] at q
        simp only [Prod.mk.injEq] at q
        omega
      · split at h0
        · simp only [Option.some.injEq] at h0
          rw [← h0] at q
          simp only [Prod.mk.injEq] at q
          omega
        · simp at h0
    | none =>
      rw [h0] at q
      simp only at q
      cases h1 : chkL (d + 1) (T.mk k n nm is rs bs).is (p + 1) (b + addB (.mk k n nm is rs bs)) with
      | mk s1 e =>
        rw [h1] at q
        cases e with
        | some e =>
          obtain ⟨n1, k1⟩ := e
          simp only [Prod.mk.injEq, Option.some.injEq] at q
          obtain ⟨_, rfl, rfl⟩ := q
          exact key is (fun t ht d => ih1 t ht d) (d + 1) _ _ s1 _ _ h1
        | none => exact key rs (fun t ht d => ih2 t ht d) (d + 1) _ _ s _ _ q
theorem rightOf_kind {t : T} {n : Nat} {k : Int} (h : rightOf t = some (n, k)) : k ≠ 0 := by
  unfold rightOf at h
  cases hc : chk 1 t 0 0 with
  | mk s e =>
    rw [hc] at h
    simp only at h
    subst h
    exact chk_kind 1 t 0 0 s n k hc
end Go.Proofs.YteaabbghnfideaaDoor
