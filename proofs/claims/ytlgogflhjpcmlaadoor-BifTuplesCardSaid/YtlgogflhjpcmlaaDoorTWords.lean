/-
  tree.Words, and the document's: how many words a term wants.
-/
import Derived.Test.YtlgogflhjpcmlaaDoorTRight
import Derived.Deep.LoopGhost
import Derived.IntWalk
import Derived.Deep.DeepCutAuto
import Derived.Deep.CutBlock
namespace Go.Proofs.YtlgogflhjpcmlaaDoor
open Go.RowKit
set_option maxHeartbeats 2000000

/-! ### terms all of whose parts have just their fields -/
mutual
def TFl : T → Prop
  | .mk k n nm is rs bs => flds (.mk k n nm is rs bs) = true ∧ LFl is ∧ LFl rs
def LFl : List T → Prop
  | [] => True
  | t :: ts => TFl t ∧ LFl ts
end
theorem TFl.eq {t : T} : TFl t ↔ flds t = true ∧ LFl t.is ∧ LFl t.rs := by
  cases t with
  | mk k n nm is rs bs => unfold TFl; exact Iff.rfl
theorem LFl.mem : ∀ {ts : List T} {t : T}, LFl ts → t ∈ ts → TFl t
  | [], _, _, h => by cases h
  | x :: ts, t, q, h => by
    unfold LFl at q
    rcases List.mem_cons.1 h with rfl | h
    · exact q.1
    · exact LFl.mem q.2 h
theorem LFl.of : ∀ {ts : List T}, (∀ t ∈ ts, TFl t) → LFl ts
  | [], _ => by simp [LFl]
  | t :: ts, f => by unfold LFl; exact ⟨f t (by simp), LFl.of fun x hx => f x (by simp [hx])⟩
theorem chk_fl (t : T) : ∀ (d p b : Nat) (s : Nat × Nat), chk d t p b = (s, none) → TFl t := by
  have key : ∀ (ts : List T), (∀ t ∈ ts, ∀ (d p b : Nat) (s : Nat × Nat), chk d t p b = (s, none) → TFl t) → ∀ (d p b : Nat) (s : Nat × Nat), chkL d ts p b = (s, none) → LFl ts := by
    intro ts
    induction ts with
    | nil => intro _ d p b s _; simp [LFl]
    | cons x xs ih =>
      intro f d p b s q
      rw [chkL] at q
      cases hx : chk d x p b with
      | mk s1 e =>
        rw [hx] at q
        cases e with
        | some e => simp at q
        | none =>
          unfold LFl
          exact ⟨f x (by simp) d p b s1 hx, ih (fun t ht => f t (by simp [ht])) d s1.1 s1.2 s q⟩
  induction t using T.ind with
  | h k n nm is rs bs ih1 ih2 =>
    intro d p b s q
    rw [chk_eq] at q
    cases h0 : chk0 d (.mk k n nm is rs bs) p b with
    | some e => rw [h0] at q; simp at q
    | none =>
      rw [h0] at q
      simp only at q
      have hf : flds (.mk k n nm is rs bs) = true := by
        unfold chk0 at h0
        split at h0
        · simp at h0
        · split at h0
          · simp at h0
          · rename_i h; simpa using h
      cases h1 : chkL (d + 1) (T.mk k n nm is rs bs).is (p + 1) (b + addB (.mk k n nm is rs bs)) with
      | mk s1 e =>
        rw [h1] at q
        cases e with
        | some e => simp at q
        | none => exact TFl.eq.2 ⟨hf, key is ih1 (d + 1) _ _ s1 h1, key rs ih2 (d + 1) _ _ s q⟩
theorem right_fl {t : T} (h : rightOf t = none) : TFl t := by
  unfold rightOf at h
  cases hc : chk 1 t 0 0 with
  | mk s e =>
    rw [hc] at h
    simp only at h
    subst h
    exact chk_fl t 1 0 0 s hc
end Go.Proofs.YtlgogflhjpcmlaaDoor
