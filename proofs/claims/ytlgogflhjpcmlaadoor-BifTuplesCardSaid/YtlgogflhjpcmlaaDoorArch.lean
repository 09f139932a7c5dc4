/-
  AN ARCHIVE: blocks that nobody writes any more, owned together; it only grows. What is said of it stays true. No program in sight.
-/
import Derived.Test.YtlgogflhjpcmlaaDoorSrc
namespace Go.Proofs.YtlgogflhjpcmlaaDoor
open Go.RowKit

def arch (h : Nat → Option Obj) : HP := fun g => ∀ k, g k = h k
def Le (h h' : Nat → Option Obj) : Prop := ∀ k o, h k = some o → h' k = some o
theorem Le.refl (h : Nat → Option Obj) : Le h h := fun _ _ q => q
theorem Le.trans {a b c : Nat → Option Obj} (h : Le a b) (k : Le b c) : Le a c := fun i o q => k i o (h i o q)
def heapOf (W : World) : Nat → Option Obj := fun k => W.heap[k]?

section
variable {W w : World} {L : List HP} {h : Nat → Option Obj}
theorem Sat.startArch (W : World) : Sat W W [arch (heapOf W)] := (Sat.start W).head fun _ q => q
theorem Sat.archGet (s : Sat W w (arch h :: L)) {k : Nat} {o : Obj} (hk : h k = some o) : w.heap[k]? = some o := by
  obtain ⟨g, ⟨h1, h2, a, _, _, e⟩, i⟩ := s.heap
  exact i k o (by rw [e k, a k, hk]; rfl)
theorem Sat.archCell (s : Sat W w (arch h :: L)) {b : Nat} {c : Array Value} {t : TypeId} {fr : Nat × Nat} (hk : h b = some (.cells c t fr)) (i : Nat) : w.cell? ⟨b, i, none⟩ = c[i]? := by
  simp [World.cell?, s.archGet hk]
/-- A block that is done goes to the archive. -/
theorem Sat.store {b : Nat} {o : Obj} (s : Sat W w (blk b o :: arch h :: L)) : ∃ h', Le h h' ∧ h' b = some o ∧ Sat W w (arch h' :: L) := by
  obtain ⟨g, ⟨h1, h2, a, ⟨h3, h4, a', c, d', e'⟩, d, e⟩, i⟩ := s.heap
  have hb : h b = none := by
    rcases d b with q | q
    · rw [a b] at q; simp at q
    · rw [e' b, a' b] at q
      cases hh : h b <;> simp [hh] at q ⊢
  refine ⟨fun k => if k = b then some o else h k, fun k o' ho' => ?_, by simp, s.os, s.tape, s.output, s.size, g, ⟨fun k => if k = b then some o else h k, h4, fun _ => rfl, c, fun k => ?_, fun k => ?_⟩, i⟩
  · by_cases q : k = b
    · rw [q, hb] at ho'; cases ho'
    · simp [q, ho']
  · by_cases q : k = b
    · rcases d k with r | r
      · rw [a k] at r; simp [q] at r
      · rw [e' k] at r
        right
        cases hh : h4 k with
        | none => rfl
        | some o' => rw [hh] at r; cases hx : h3 k <;> simp [hx] at r
    · rcases d' k with r | r
      · left; rw [a' k] at r; simp [q, r]
      · exact .inr r
  · rw [e k, a k, e' k, a' k]
    by_cases q : k = b
    · simp [q]
    · simp [q]
theorem Sat.archBelow (s : Sat W w (arch h :: L)) (hW : Le (heapOf W) h) : Below W.heap.size W w := by
  refine ⟨s.os, s.tape, s.output, s.size, fun k hk => ?_⟩
  obtain ⟨o, ho⟩ : ∃ o, W.heap[k]? = some o := ⟨_, Array.getElem?_eq_getElem hk⟩
  rw [ho]
  exact s.archGet (hW k o ho)
theorem Sat.archOld (s : Sat W w (arch h :: L)) (hW : Le (heapOf W) h) {a : Addr} {v : Value} (hc : W.cell? a = some v) : w.cell? a = some v := by
  rw [(s.archBelow hW).cell (World.block_lt_of_cell? W a hc), hc]
/-- cells of an archived world: the same words as 'World.cell?' -/
def cellIn (h : Nat → Option Obj) (b i : Nat) : Option Value := match h b with | some (.cells c _ _) => c[i]? | _ => none
theorem cellIn_mono {h h' : Nat → Option Obj} (l : Le h h') {b i : Nat} {v : Value} (hc : cellIn h b i = some v) : cellIn h' b i = some v := by
  unfold cellIn at hc ⊢
  cases hb : h b with
  | none => rw [hb] at hc; cases hc
  | some o => rw [l b o hb]; rw [hb] at hc; exact hc
theorem Sat.cellIn (s : Sat W w (arch h :: L)) {b i : Nat} {v : Value} (hc : Go.Proofs.YtlgogflhjpcmlaaDoor.cellIn h b i = some v) : w.cell? ⟨b, i, none⟩ = some v := by
  unfold Go.Proofs.YtlgogflhjpcmlaaDoor.cellIn at hc
  cases hb : h b with
  | none => rw [hb] at hc; cases hc
  | some o =>
    rw [hb] at hc
    cases o <;> simp only [reduceCtorEq] at hc
    rw [s.archCell hb]; exact hc
theorem cellIn_heapOf {w : World} {b i : Nat} {v : Value} (hc : w.cell? ⟨b, i, none⟩ = some v) : Go.Proofs.YtlgogflhjpcmlaaDoor.cellIn (heapOf w) b i = some v := by
  unfold Go.Proofs.YtlgogflhjpcmlaaDoor.cellIn heapOf
  unfold World.cell? at hc
  exact hc
end
#print axioms Sat.store
end Go.Proofs.YtlgogflhjpcmlaaDoor
