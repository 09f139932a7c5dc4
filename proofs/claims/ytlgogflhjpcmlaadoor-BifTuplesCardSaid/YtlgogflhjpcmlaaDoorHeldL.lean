/-
  A region that draws its order: a condition on the memory that holds as long as one operation (the store that ends it) has not come up.
-/
import Derived.Deep.RegionHeld3
namespace Go.Proofs.YtlgogflhjpcmlaaDoor

set_option maxHeartbeats 4000000
set_option maxRecDepth 100000
section
variable {P : Program} {ops : Array Oper} {Q : Exit → Act → World → Prop} {md : Region.Mode} {S : World → Prop}
/-- whatever order is picked; S holds as long as number k has not come up -/
def wpAnyL (P : Program) (md : Region.Mode) (ops : Array Oper) (Q : Exit → Act → World → Prop) (S : World → Prop) (k : Nat) : Nat → Array Bool → Act → World → Prop
  | 0, l, a, w => Region.ready md ops l = [] ∧ Q .normal a w
  | f + 1, l, a, w => (Region.ready md ops l = [] → Q .normal a w) ∧
      ∀ i ∈ Region.ready md ops l, wpOp P ops Q i (fun a' w' => ((l.setIfInBounds i true).getD k true = false → S w') ∧ wpAnyL P md ops Q S k f (l.setIfInBounds i true) a' w') a w
theorem wpAnyL.any {k : Nat} : ∀ (f : Nat) (l : Array Bool) (a : Act) (w : World), wpAnyL P md ops Q S k f l a w → wpAny P md ops Q f l a w
  | 0, _, _, _, h => h
  | f + 1, _, _, _, h => ⟨h.1, fun i hi => wpOp_mono (fun a' w' x => wpAnyL.any f _ a' w' x.2) (h.2 i hi)⟩
theorem waits_ready {i j : Nat} {oj : Oper} {l : Array Bool} (hj : j ∈ Region.ready md ops l) (hoj : ops[j]? = some oj) (hun : l.getD i true = false) : ∀ e ∈ oj.after, Region.binds md e = true → e.on ≠ i := by
  intro e he hb heq
  obtain ⟨_, o2, ho2, hall⟩ := mem_ready.1 hj
  obtain rfl : oj = o2 := by rw [hoj] at ho2; exact Option.some.inj ho2
  have h1 := hall e he hb
  rw [heq] at h1
  rcases Nat.lt_or_ge i l.size with h' | h'
  · simp [h'] at hun h1; rw [hun] at h1; cases h1
  · simp [Array.getElem?_eq_none h'] at h1
/-- takes an operation first that yields its value wherever S' holds; S' holds as long as it has not come up itself -/
theorem wpAnyL_first {i k : Nat} {oi : Oper} {v : Value} {S' : World → Prop} (hi : ops[i]? = some oi) (hsel : ∀ (j : Nat) (o : Oper) cs b, ops[j]? = some o → o.op ≠ .select cs b)
    (hQ : ∀ c a w, Q (.panic c) (a.put oi.dst v) w → Q (.panic c) a w) (hki : k ≠ i) (hS' : (∀ w, S' w) ∨ ((∀ ok, ops[k]? = some ok → ∃ e ∈ ok.after, Region.binds md e = true ∧ e.on = i) ∧ ∀ w, S w → S' w)) :
    ∀ (f : Nat) (l : Array Bool) (a : Act) (w : World),
      (∀ j oj, ops[j]? = some oj → j ≠ i → l.getD j true = false → (∀ e ∈ oj.after, Region.binds md e = true → e.on ≠ i) → oi.apart ops oj = true) →
      i ∈ Region.ready md ops l → YieldsIf P ops S' oi v a → (l.getD k true = false → S w) → ((∀ w, S' w) ∨ l.getD k true = false) →
      wpAnyL P md ops Q S k f (l.setIfInBounds i true) (a.put oi.dst v) w → wpAnyL P md ops Q S k (f + 1) l a w := by
  have s1 : ∀ (l : Array Bool) (w : World), (l.getD k true = false → S w) → ((∀ w, S' w) ∨ l.getD k true = false) → S' w := by
    intro l w hS hk
    rcases hk with hk | hk
    · exact hk w
    · rcases hS' with h | ⟨_, h⟩
      · exact h w
      · exact h w (hS hk)
  have s2 : ∀ (l : Array Bool) (j : Nat), (l.setIfInBounds j true).getD k true = false → l.getD k true = false := by
    intro l j hk
    by_cases hjk : j = k
    · subst hjk
      rcases Nat.lt_or_ge j l.size with h | h
      · simp [h] at hk
      · simp [Nat.not_lt.2 h] at hk
    · rw [getD_set_ne true hjk] at hk; exact hk
  intro f
  induction f with
  | zero =>
    intro l a w _ hr hy hS hk H
    refine ⟨fun h => (by rw [h] at hr; cases hr), fun j hj => ?_⟩
    by_cases hji : j = i
    · subst hji; exact hy.wpOp hi (s1 l w hS hk) ⟨fun h => hS (s2 _ _ h), H⟩
    · have := ready_mono hj hji
      rw [H.1] at this
      cases this
  | succ f ih =>
    intro l a w hfree hr hy hS hk H
    refine ⟨fun h => (by rw [h] at hr; cases hr), fun j hj => ?_⟩
    by_cases hji : j = i
    · subst hji; exact hy.wpOp hi (s1 l w hS hk) ⟨fun h => hS (s2 _ _ h), H⟩
    · have h1 := H.2 j (ready_mono hj hji)
      obtain ⟨hjun, oj, hoj, hall⟩ := mem_ready.1 hj
      have hiun := (mem_ready.1 hr).1
      have hnot := waits_ready hj hoj hiun
      have h2 := wpOp_putIf hoj (hfree j oj hoj hji hjun hnot) (fun cs b => hsel i oi cs b hi) (fun cs b => hsel j oj cs b hoj) hQ hy h1
      have hfree' : ∀ m om, ops[m]? = some om → m ≠ i → (l.setIfInBounds j true).getD m true = false →
          (∀ e ∈ om.after, Region.binds md e = true → e.on ≠ i) → oi.apart ops om = true := fun m om hm hmi hun hno => by
        refine hfree m om hm hmi ?_ hno
        by_cases hjm : j = m
        · subst hjm; exact hjun
        · rw [getD_set_ne true hjm] at hun; exact hun
      have hk' : (∀ w, S' w) ∨ (l.setIfInBounds j true).getD k true = false := by
        rcases hk with hk | hk
        · exact .inl hk
        · rcases hS' with h | ⟨hw, _⟩
          · exact .inl h
          · refine .inr ?_
            have hjk : j ≠ k := by
              rintro rfl
              obtain ⟨e, he, hb, hon⟩ := hw oj hoj
              exact hnot e he hb hon
            rw [getD_set_ne true hjk]
            exact hk
      refine wpOp_mono (fun a' w' h3 => ?_) h2
      have hS2 : (l.setIfInBounds j true).getD k true = false → S w' := fun hh => h3.2.1 (by rw [Array.setIfInBounds_comm _ _ (Ne.symm hji), getD_set_ne true (Ne.symm hki)]; exact hh)
      refine ⟨hS2, ih (l.setIfInBounds j true) a' w' hfree' (ready_mono hr (Ne.symm hji)) h3.1 hS2 hk' ?_⟩
      rw [Array.setIfInBounds_comm _ _ hji]
      exact h3.2.2
/-- the beginning -/
theorem wp_region_L {id : Nat} {a : Act} {w : World} (k : Nat) (hm : P.follows .mixedOrders = true) (h : wpAnyL P .any ops Q S k ops.size (Array.replicate ops.size false) a w.drew) : (Code.region id ops true).wp P Q a w :=
  wp_region_any hm (wpAnyL.any _ _ _ _ h)
/-- what yields in any memory is taken first -/
theorem wpAnyL_pure {i d k : Nat} {oi : Oper} {v : Value} {f : Nat} {l : Array Bool} {a : Act} {w : World} (hi : ops[i]? = some oi) (hd : oi.dst = some d)
    (hs : Region.noSelect ops = true) (hf : Region.free md ops l i = true) (hr : (Region.ready md ops l).contains i = true) (hki : k ≠ i)
    (hQ : ∀ c a w, Q (.panic c) (a.put oi.dst v) w → Q (.panic c) a w) (hy : YieldsIf P ops (fun _ => True) oi v a) (hS : l.getD k true = false → S w)
    (h : wpAnyL P md ops Q S k f (l.setIfInBounds i true) (a.put (some d) v) w) : wpAnyL P md ops Q S k (f + 1) l a w :=
  wpAnyL_first hi (Region.noSelect_spec hs) hQ hki (.inl fun _ => trivial) f l a w (Region.free_spec hi hf) (by simpa using hr) hy hS (.inl fun _ => trivial) (hd ▸ h)
/-- what yields where S holds is taken first, if number k waits for it -/
theorem wpAnyL_load {i d k : Nat} {oi : Oper} {v : Value} {f : Nat} {l : Array Bool} {a : Act} {w : World} (hi : ops[i]? = some oi) (hd : oi.dst = some d)
    (hs : Region.noSelect ops = true) (hf : Region.free md ops l i = true) (hr : (Region.ready md ops l).contains i = true) (hki : k ≠ i)
    (hw : ((ops[k]?).elim false fun o => o.after.any fun e => Region.binds md e && e.on == i) = true) (hk : l.getD k true = false)
    (hQ : ∀ c a w, Q (.panic c) (a.put oi.dst v) w → Q (.panic c) a w) (hy : YieldsIf P ops S oi v a) (hS : S w)
    (h : wpAnyL P md ops Q S k f (l.setIfInBounds i true) (a.put (some d) v) w) : wpAnyL P md ops Q S k (f + 1) l a w := by
  refine wpAnyL_first hi (Region.noSelect_spec hs) hQ hki (.inr ⟨fun ok hok => ?_, fun _ h => h⟩) f l a w (Region.free_spec hi hf) (by simpa using hr) hy (fun _ => hS) (.inr hk) (hd ▸ h)
  rw [hok] at hw
  obtain ⟨e, he, hb⟩ := Array.any_eq_true'.1 hw
  simp only [Bool.and_eq_true, beq_iff_eq] at hb
  exact ⟨e, he, hb.1, hb.2⟩
def AllL (P : Program) (md : Region.Mode) (ops : Array Oper) (Q : Exit → Act → World → Prop) (S : World → Prop) (k f : Nat) (l : Array Bool) (a : Act) (w : World) (rs : List Nat) : Prop :=
  ∀ i ∈ rs, wpOp P ops Q i (fun a' w' => ((l.setIfInBounds i true).getD k true = false → S w') ∧ wpAnyL P md ops Q S k f (l.setIfInBounds i true) a' w') a w
theorem AllL.nil {k f : Nat} {l : Array Bool} {a : Act} {w : World} : AllL P md ops Q S k f l a w [] := fun _ h => by cases h
/-- number i comes up next; S is to be shown anew, unless number k has come up -/
theorem AllL.cons {k f : Nat} {l : Array Bool} {a : Act} {w : World} {i : Nat} {o : Oper} {rs : List Nat} (ho : ops[i]? = some o)
    (h : ∀ K' : Act → World → Prop, Shut (∀ a w, ((l.setIfInBounds i true).getD k true = false → S w) → wpAnyL P md ops Q S k f (l.setIfInBounds i true) a w → K' a w) → if Region.wanted o (yielded ops a.tmps) = true then Oper.wp P o a w K' Q else K' (a.put o.dst undef) w)
    (hs : AllL P md ops Q S k f l a w rs) : AllL P md ops Q S k f l a w (i :: rs) := fun j hj => by
  rcases List.mem_cons.1 hj with rfl | hj
  · exact wpOp_step ho (fun K' hK => h K' (fun a w hS hW => hK a w ⟨hS, hW⟩))
  · exact hs j hj
theorem wpAnyL_ready {k : Nat} {rs : List Nat} {f : Nat} {l : Array Bool} {a : Act} {w : World} (hr : Region.ready md ops l = rs) (hne : rs ≠ []) (h : AllL P md ops Q S k f l a w rs) : wpAnyL P md ops Q S k (f + 1) l a w :=
  ⟨fun h0 => absurd (hr ▸ h0) hne, hr ▸ h⟩
theorem wpAnyL_done {k : Nat} {l : Array Bool} {a : Act} {w : World} (hr : Region.ready md ops l = []) (h : Q .normal a w) : ∀ f, wpAnyL P md ops Q S k f l a w
  | 0 => ⟨hr, h⟩
  | _ + 1 => ⟨fun _ => h, by rw [hr]; simp⟩
end
end Go.Proofs.YtlgogflhjpcmlaaDoor
