/-
  vet: the tries: plain: what the model's steps keep, and that they end.
-/
import Derived.Test.YtohdhckafebmhaaDoorVetC
namespace Go.Proofs.YtohdhckafebmhaaDoor
open Go.RowKit

theorem unset_le (l : List Int) : unset l ≤ l.length := List.length_filter_le ..
theorem unset_set {l : List Int} {i : Nat} {v : Int} (hi : i < l.length) (h : l.getD i 0 < 0) (hv : 0 ≤ v) : unset (l.set i v) + 1 = unset l := by
  induction l generalizing i with
  | nil => simp at hi
  | cons a ts ih =>
    cases i with
    | zero =>
      have ha : a < 0 := h
      have hv' : ¬ v < 0 := by omega
      simp [unset, ha, hv']
    | succ i =>
      have := ih (i := i) (by simpa using hi) h
      unfold unset at this ⊢
      rw [List.set_cons_succ, List.filter_cons, List.filter_cons]
      split
      · simp only [List.length_cons]; omega
      · omega
structure TrOk (n : Nat) (s : Tr) : Prop where
  l : s.l.length = n
  o : s.o.length = n
  pc : s.pc ≤ n
  next : s.next ≤ n
  vals : ∀ x ∈ s.l, -1 ≤ x ∧ x ≤ 8
  opn : ∀ i, s.o.getD i false = true → 0 ≤ s.l.getD i 0
theorem mem_set' {l : List Int} {i : Nat} {v x : Int} (h : x ∈ l.set i v) : x ∈ l ∨ x = v := by
  rw [List.mem_iff_getElem?] at h
  obtain ⟨j, hj⟩ := h
  rw [List.getElem?_set] at hj
  split at hj
  · split at hj
    · exact .inr (Option.some.inj hj).symm
    · simp at hj
  · exact .inl (List.mem_of_getElem? hj)
/-- one way keeps -/
theorem way_ok {n : Nat} {s s' : Tr} {p : Int × Int} (h : TrOk n s) (hp : 0 ≤ p.1) (hq : 0 ≤ p.2) (e : way n s p = .inl s') :
    TrOk n s' ∧ s'.pc = s.pc ∧ s'.next ≤ s.next ∧ unset s'.l ≤ unset s.l ∧ (unset s'.l = unset s.l → s'.next = s.next) := by
  unfold way at e
  split at e
  · exact absurd e (by simp)
  next h1 =>
  split at e
  · exact absurd e (by simp)
  next h2 =>
  split at e
  next h3 =>
    have hn : p.1.toNat < n := by omega
    have hu := unset_set (l := s.l) (i := p.1.toNat) (v := p.2) (by rw [h.l]; exact hn) h3 hq
    injection e with e
    subst e
    refine ⟨⟨?_, ?_, h.pc, ?_, ?_, ?_⟩, rfl, ?_, ?_, ?_⟩
    · simpa using h.l
    · simpa using h.o
    · have := h.next; show min s.next p.1.toNat ≤ n; omega
    · intro x hx
      rcases mem_set' hx with hx | rfl
      · exact h.vals x hx
      · omega
    · intro i hi
      show 0 ≤ (s.l.set p.1.toNat p.2).getD i 0
      by_cases q : i = p.1.toNat
      · subst q
        rw [List.getD_eq_getElem?_getD, List.getElem?_set_self (by rw [h.l]; exact hn)]
        exact hq
      · rw [List.getD_eq_getElem?_getD, List.getElem?_set_ne (Ne.symm q), ← List.getD_eq_getElem?_getD]
        refine h.opn i ?_
        change (s.o.set p.1.toNat true).getD i false = true at hi
        rwa [List.getD_eq_getElem?_getD, List.getElem?_set_ne (Ne.symm q), ← List.getD_eq_getElem?_getD] at hi
    · show min s.next p.1.toNat ≤ s.next; omega
    · show unset (s.l.set _ _) ≤ _; omega
    · intro q; exfalso; change unset (s.l.set _ _) = _ at q; omega
  next h3 =>
    injection e with e
    subst e
    exact ⟨h, rfl, Nat.le_refl _, Nat.le_refl _, fun _ => rfl⟩
theorem ways_ok {n : Nat} {ps : List (Int × Int)} : ∀ {s s' : Tr}, TrOk n s → (∀ p ∈ ps, 0 ≤ p.1 ∧ 0 ≤ p.2) → ways n s ps = .inl s' →
    TrOk n s' ∧ s'.pc = s.pc ∧ s'.next ≤ s.next ∧ unset s'.l ≤ unset s.l ∧ (unset s'.l = unset s.l → s'.next = s.next) := by
  induction ps with
  | nil =>
    intro s s' h _ e
    unfold ways at e
    injection e with e
    subst e
    exact ⟨h, rfl, Nat.le_refl _, Nat.le_refl _, fun _ => rfl⟩
  | cons p ps ih =>
    intro s s' h hp e
    unfold ways at e
    cases hw : way n s p with
    | inr k => rw [hw] at e; exact absurd e (by simp)
    | inl s1 =>
      rw [hw] at e
      obtain ⟨hp1, hp2⟩ := hp p (by simp)
      obtain ⟨a1, a2, a3, a4, a5⟩ := way_ok h hp1 hp2 hw
      obtain ⟨b1, b2, b3, b4, b5⟩ := ih a1 (fun q hq => hp q (by simp [hq])) e
      exact ⟨b1, b2.trans a2, Nat.le_trans b3 a3, Nat.le_trans b4 a4, fun q => (b5 (by omega)).trans (a5 (by omega))⟩
/-- a step that goes on lowers the measure -/
theorem meas_drop {n : Nat} {s s' : Tr} (h : s.pc < n) (hu : unset s'.l ≤ unset s.l) (hn : unset s'.l = unset s.l → s'.next = s.pc + 1) : meas n { s' with pc := s'.next } < meas n s := by
  unfold meas
  simp only
  by_cases q : unset s'.l = unset s.l
  · rw [q, hn q]; omega
  · have h1 : unset s'.l + 1 ≤ unset s.l := by omega
    have h2 := Nat.mul_le_mul_right (n + 1) h1
    rw [Nat.add_mul] at h2
    omega
/-- where an instruction's ways go, when its operands are right -/
theorem goes_pos {m : Md} {f : Fn} {x : In} {pc t : Int} (hz : ∀ j, j < 3 → ordE m f x j = 0) (hpc : 0 ≤ pc) (ht : 0 ≤ t) (h25 : x.op = 25 → 1 ≤ t) : ∀ p ∈ goesE x pc t, 0 ≤ p.1 ∧ 0 ≤ p.2 := by
  have lab : ∀ {n : Int}, opdE m f 108 n = 0 → 0 ≤ n := by
    intro n h
    cases hb : inB n f.code.length with
    | true => exact (inB_lt hb).1
    | false => rw [show opdE m f 108 n = 13 by simp [opdE, hb]] at h; omega
  have a0 : opdE m f (letAt x.op 0) x.a = 0 := hz 0 (by omega)
  have a1 : opdE m f (letAt x.op 1) x.b = 0 := hz 1 (by omega)
  have a2 : opdE m f (letAt x.op 2) x.c = 0 := hz 2 (by omega)
  intro p hp
  unfold goesE at hp
  split at hp
  · simp at hp
  split at hp
  · next e =>
    have : 0 ≤ x.a := by rcases e with e | e | e <;> (rw [e] at a0; exact lab a0)
    simp only [List.mem_singleton] at hp; subst hp; exact ⟨this, ht⟩
  split at hp
  · next e =>
    have : 0 ≤ x.a := by rw [e] at a0; exact lab a0
    simp only [List.mem_cons, List.not_mem_nil, or_false] at hp
    rcases hp with rfl | rfl
    · exact ⟨by show 0 ≤ pc + 1; omega, by show 0 ≤ t + 1; omega⟩
    · exact ⟨this, ht⟩
  split at hp
  · next e =>
    simp only [List.mem_singleton] at hp; subst hp
    have := h25 e
    exact ⟨by show 0 ≤ pc + 1; omega, by show 0 ≤ t - 1; omega⟩
  split at hp
  · next e =>
    have : 0 ≤ x.c := by rcases e with e | e | e | e <;> (rw [e] at a2; exact lab a2)
    simp only [List.mem_cons, List.not_mem_nil, or_false] at hp
    rcases hp with rfl | rfl
    · exact ⟨by show 0 ≤ pc + 1; omega, ht⟩
    · exact ⟨this, ht⟩
  split at hp
  · next e =>
    have : 0 ≤ x.a := by rw [e] at a0; exact lab a0
    simp only [List.mem_cons, List.not_mem_nil, or_false] at hp
    rcases hp with rfl | rfl
    · exact ⟨by show 0 ≤ pc + 1; omega, ht⟩
    · exact ⟨this, ht⟩
  split at hp
  · next e =>
    have : 0 ≤ x.b := by rw [e] at a1; exact lab a1
    simp only [List.mem_cons, List.not_mem_nil, or_false] at hp
    rcases hp with rfl | rfl
    · exact ⟨by show 0 ≤ pc + 1; omega, ht⟩
    · exact ⟨this, ht⟩
  simp only [List.mem_singleton] at hp; subst hp
  exact ⟨by show 0 ≤ pc + 1; omega, ht⟩
/-- the instruction at hand is no longer open -/
theorem close_ok {n : Nat} {s : Tr} (h : TrOk n s) (hp : s.pc < n) : TrOk n { s with o := s.o.set s.pc false, next := s.pc + 1 } := by
  refine ⟨h.l, by simpa using h.o, h.pc, hp, h.vals, ?_⟩
  intro i hi
  refine h.opn i ?_
  change (s.o.set s.pc false).getD i false = true at hi
  by_cases q : i = s.pc
  · subst q
    rw [List.getD_eq_getElem?_getD, List.getElem?_set_self (by rw [h.o]; exact hp)] at hi
    simp at hi
  · rwa [List.getD_eq_getElem?_getD, List.getElem?_set_ne (Ne.symm q), ← List.getD_eq_getElem?_getD] at hi
#print axioms goes_pos
end Go.Proofs.YtohdhckafebmhaaDoor
