/-
  Plain lists: what is looked for in the order in which it came. No program in sight.
-/
namespace Go.Proofs.Ytmfjeplfpljogaa

/-- those that are looked for; the others -/
def ks (k : Int) (l : List Int) : List Int := l.filter fun m => m % 3 == k
def nk (k : Int) (l : List Int) : List Int := l.filter fun m => !(m % 3 == k)

theorem ks_snoc_yes {k v : Int} (l : List Int) (h : v % 3 = k) : ks k (l ++ [v]) = ks k l ++ [v] := by simp [ks, List.filter_append, h]
theorem ks_snoc_no {k v : Int} (l : List Int) (h : v % 3 ≠ k) : ks k (l ++ [v]) = ks k l := by simp [ks, List.filter_append, h]
theorem nk_snoc_yes {k v : Int} (l : List Int) (h : v % 3 = k) : nk k (l ++ [v]) = nk k l := by simp [nk, List.filter_append, h]
theorem nk_snoc_no {k v : Int} (l : List Int) (h : v % 3 ≠ k) : nk k (l ++ [v]) = nk k l ++ [v] := by simp [nk, List.filter_append, h]
theorem ks_le (k : Int) (l : List Int) : (ks k l).length ≤ l.length := List.length_filter_le _ _
theorem nk_le (k : Int) (l : List Int) : (nk k l).length ≤ l.length := List.length_filter_le _ _
theorem ks_nk (k : Int) (l : List Int) : (ks k l).length + (nk k l).length = l.length := by
  induction l with
  | nil => rfl
  | cons a l ih =>
    simp only [ks, nk] at ih ⊢
    by_cases h : a % 3 = k <;> simp [h] <;> omega

theorem split_at (l : List Int) (i : Nat) (h : i < l.length) : l = l.take i ++ l.getD i 0 :: l.drop (i + 1) := by
  have : l.getD i 0 = l[i] := by simp [h]
  rw [this, List.getElem_cons_drop, List.take_append_drop]

theorem scan_next {k : Int} {xs : List Int} {at_ : Nat} (h : at_ < xs.length) (h0 : ks k (xs.take at_) = []) (hv : xs.getD at_ 0 % 3 ≠ k) :
    ks k (xs.take (at_ + 1)) = [] ∧ at_ + 1 ≤ (nk k xs).length := by
  have e : xs.take (at_ + 1) = xs.take at_ ++ [xs.getD at_ 0] := by
    rw [List.take_succ_eq_append_getElem h]; simp [h]
  have h1 : ks k (xs.take (at_ + 1)) = [] := by rw [e, ks_snoc_no _ hv, h0]
  refine ⟨h1, ?_⟩
  have h2 := ks_nk k (xs.take (at_ + 1))
  rw [h1] at h2
  have h3 : (nk k xs).length = (nk k (xs.take (at_ + 1))).length + (nk k (xs.drop (at_ + 1))).length := by
    rw [← List.length_append]
    congr 1
    simp only [nk, ← List.filter_append, List.take_append_drop]
  simp at h2
  omega
theorem scan_take {k : Int} {xs : List Int} {at_ : Nat} (h : at_ < xs.length) (h0 : ks k (xs.take at_) = []) (hv : xs.getD at_ 0 % 3 = k) :
    ks k xs = xs.getD at_ 0 :: ks k (xs.eraseIdx at_) ∧ nk k (xs.eraseIdx at_) = nk k xs := by
  have e := split_at xs at_ h
  rw [List.eraseIdx_eq_take_drop_succ]
  generalize xs.getD at_ 0 = v at *
  generalize xs.drop (at_ + 1) = r at *
  generalize xs.take at_ = p at *
  subst e
  simp only [ks, nk, List.filter_append, List.filter_cons, hv] at *
  simp [h0]
theorem scan_end {k : Int} {xs : List Int} {at_ : Nat} (h : xs.length ≤ at_) (h0 : ks k (xs.take at_) = []) : ks k xs = [] ∧ nk k xs = xs := by
  rw [List.take_of_length_le h] at h0
  refine ⟨h0, ?_⟩
  simp only [ks, List.filter_eq_nil_iff] at h0
  simp only [nk]
  rw [List.filter_eq_self]
  intro a ha
  have := h0 a ha
  simpa using this
/-- how many looks are left at most -/
theorem pot_start {T R i : Nat} (h : T + R = i) : 0 + T * (R + 1) + (R - 0) + 1 ≤ 2 * i * i + 6 := by
  have h1 : T * (R + 1) ≤ i * (i + 1) := Nat.mul_le_mul (by omega) (by omega)
  have h2 : i * (i + 1) = i * i + i := by rw [Nat.mul_add, Nat.mul_one]
  have h3 : 2 * i * i = i * i + i * i := by rw [Nat.mul_assoc, Nat.two_mul]
  have h4 : i * i + i + i + 1 ≤ i * i + i * i + 6 := by
    rcases Nat.lt_or_ge i 2 with q | q
    · have : i = 0 ∨ i = 1 := by omega
      rcases this with rfl | rfl <;> omega
    · have : 2 * i ≤ i * i := Nat.mul_le_mul_right _ q
      omega
  omega
theorem pot_take {n t R a Q : Nat} (h : n + (t + 1) * (R + 1) + (R - a) + 1 ≤ Q) : n + 1 + t * (R + 1) + (R - 0) + 1 ≤ Q := by
  have : (t + 1) * (R + 1) = t * (R + 1) + (R + 1) := by rw [Nat.add_mul, Nat.one_mul]
  omega
end Go.Proofs.Ytmfjeplfpljogaa
