/-
  A term whose text is not too long has no part that is too long. (Plain.)
-/
import Derived.Test.YteaabbghnfideaaDoorParB
namespace Go.Proofs.YteaabbghnfideaaDoor
open Go.RowKit
set_option maxHeartbeats 1000000

theorem num_pos1 (n : Int) : 1 ≤ (num n).length := by
  obtain ⟨c, l, e, _⟩ := num_head (n := n)
  rw [e]; simp
theorem joinB_ge (bs : List Int) : bs.length ≤ (joinB bs).length := by
  cases bs with
  | nil => simp
  | cons x xs =>
    have key : ∀ l : List Int, l.length ≤ (l.flatMap fun y => 44 :: num y).length := by
      intro l
      induction l with
      | nil => simp
      | cons y l ih => rw [List.flatMap_cons, List.length_append, List.length_cons, List.length_cons]; omega
    have := key xs
    have := num_pos1 x
    rw [joinB, List.length_append, List.length_cons]
    omega
theorem txtM_ge : ∀ (ts : List T), ts.length ≤ (txtM ts).length ∧ ∀ x ∈ ts, (txt x).length ≤ (txtM ts).length
  | [] => ⟨by simp, fun x hx => by cases hx⟩
  | t :: ts => by
    have h := txtM_ge ts
    rw [txtM]
    simp only [List.length_cons, List.length_append]
    refine ⟨by omega, fun x hx => ?_⟩
    rcases List.mem_cons.1 hx with rfl | hx
    · omega
    · have := h.2 x hx; omega
theorem txtL_ge : ∀ (ts : List T), ts.length ≤ (txtL ts).length + 1 ∧ ∀ x ∈ ts, (txt x).length ≤ (txtL ts).length
  | [] => ⟨by simp, fun x hx => by cases hx⟩
  | t :: ts => by
    have h := txtM_ge ts
    rw [txtL]
    simp only [List.length_cons, List.length_append]
    refine ⟨by omega, fun x hx => ?_⟩
    rcases List.mem_cons.1 hx with rfl | hx
    · omega
    · have := h.2 x hx; omega
theorem fl_1 {t : T} (h : flds t = true) (hk : t.k = 1) : t.nm.size = 0 ∧ t.is.length + t.rs.length + t.bs.length = 0 := by
  unfold flds at h
  rw [hk] at h
  exact of_decide_eq_true (show decide (t.nm.size = 0 ∧ t.is.length + t.rs.length + t.bs.length = 0) = true from h)
theorem fl_2 {t : T} (h : flds t = true) (hk : t.k = 2) : t.n = 0 ∧ 1 ≤ t.nm.size ∧ t.nm.size ≤ 255 ∧ t.is.length + t.rs.length + t.bs.length = 0 := by
  unfold flds at h
  rw [hk] at h
  exact of_decide_eq_true (show decide (t.n = 0 ∧ 1 ≤ t.nm.size ∧ t.nm.size ≤ 255 ∧ t.is.length + t.rs.length + t.bs.length = 0) = true from h)
theorem fl_3 {t : T} (h : flds t = true) (hk : t.k = 3) : 0 ≤ t.n ∧ t.n < 1152921504606846976 ∧ t.nm.size = 0 ∧ t.is.length + t.rs.length + t.bs.length = 0 := by
  unfold flds at h
  rw [hk] at h
  exact of_decide_eq_true (show decide (0 ≤ t.n ∧ t.n < 1152921504606846976 ∧ t.nm.size = 0 ∧ t.is.length + t.rs.length + t.bs.length = 0) = true from h)
theorem fl_4 {t : T} (h : flds t = true) (hk : t.k = 4) : 0 ≤ t.n ∧ t.n < 1152921504606846976 ∧ t.nm.size = 0 ∧ t.is.length + t.rs.length + t.bs.length = 0 := by
  unfold flds at h
  rw [hk] at h
  exact of_decide_eq_true (show decide (0 ≤ t.n ∧ t.n < 1152921504606846976 ∧ t.nm.size = 0 ∧ t.is.length + t.rs.length + t.bs.length = 0) = true from h)
theorem fl_5 {t : T} (h : flds t = true) (hk : t.k = 5) : t.n = 0 ∧ t.nm.size = 0 ∧ t.rs.length + t.bs.length = 0 := by
  unfold flds at h
  rw [hk] at h
  exact of_decide_eq_true (show decide (t.n = 0 ∧ t.nm.size = 0 ∧ t.rs.length + t.bs.length = 0) = true from h)
theorem fl6' {t : T} (h : flds t = true) (hk : t.k = 6) : t.n = 0 ∧ t.nm.size = 0 ∧ t.is.length + t.rs.length + t.bs.length = 0 := by
  unfold flds at h
  rw [hk] at h
  exact of_decide_eq_true (show decide (t.n = 0 ∧ t.nm.size = 0 ∧ t.is.length + t.rs.length + t.bs.length = 0) = true from h)
theorem fl7' {t : T} (h : flds t = true) (hk : t.k = 7) : t.is.length ≠ 0 ∧ t.rs.length ≤ 1 ∧ (t.rs.length = 1 → restK t ≠ 7 ∧ restK t ≠ 6) ∧ t.n = 0 ∧ t.nm.size = 0 ∧ t.bs.length = 0 := by
  unfold flds at h
  rw [hk] at h
  exact of_decide_eq_true (show decide (t.is.length ≠ 0 ∧ t.rs.length ≤ 1 ∧ (t.rs.length = 1 → restK t ≠ 7 ∧ restK t ≠ 6) ∧ t.n = 0 ∧ t.nm.size = 0 ∧ t.bs.length = 0) = true from h)
theorem fl_8 {t : T} (h : flds t = true) (hk : t.k = 8) : t.n = 0 ∧ t.nm.size = 0 ∧ t.is.length + t.rs.length = 0 := by
  unfold flds at h
  rw [hk] at h
  exact of_decide_eq_true (show decide (t.n = 0 ∧ t.nm.size = 0 ∧ t.is.length + t.rs.length = 0) = true from h)
theorem flds_kind {t : T} (h : flds t = true) : t.k = 1 ∨ t.k = 2 ∨ t.k = 3 ∨ t.k = 4 ∨ t.k = 5 ∨ t.k = 6 ∨ t.k = 7 ∨ t.k = 8 := by
  unfold flds fldB at h
  by_cases a3 : t.k = 3 ∨ t.k = 4
  · omega
  rw [if_neg a3] at h
  by_cases a1 : t.k = 1
  · omega
  rw [if_neg a1] at h
  by_cases a2 : t.k = 2
  · omega
  rw [if_neg a2] at h
  by_cases a6 : t.k = 6
  · omega
  rw [if_neg a6] at h
  by_cases a5 : t.k = 5
  · omega
  rw [if_neg a5] at h
  by_cases a7 : t.k = 7
  · omega
  rw [if_neg a7] at h
  by_cases a8 : t.k = 8
  · omega
  rw [if_neg a8] at h
  cases h
theorem txt8 {t : T} (h : t.k = 8) : txt t = [60, 60] ++ joinB t.bs ++ [62, 62] := by
  cases t with
  | mk k n nm is rs bs =>
    simp only [T.k] at h
    subst h
    rw [txt]; rfl
/-- what a term's parts take of its text -/
theorem txt_parts {t : T} (h : flds t = true) : t.nm.size ≤ 255 ∧ t.is.length ≤ (txt t).length ∧ t.rs.length ≤ 1 ∧ t.bs.length ≤ (txt t).length ∧ (∀ x ∈ t.is, (txt x).length ≤ (txt t).length) ∧ ∀ x ∈ t.rs, (txt x).length ≤ (txt t).length := by
  have e0 : ∀ (l : List T), l.length = 0 → ∀ x ∈ l, (txt x).length ≤ (txt t).length := fun l hl x hx => by rw [List.eq_nil_of_length_eq_zero hl] at hx; cases hx
  rcases flds_kind h with k | k | k | k | k | k | k | k
  · have := fl_1 h k; exact ⟨by omega, by omega, by omega, by omega, e0 _ (by omega), e0 _ (by omega)⟩
  · have := fl_2 h k; exact ⟨by omega, by omega, by omega, by omega, e0 _ (by omega), e0 _ (by omega)⟩
  · have := fl_3 h k; exact ⟨by omega, by omega, by omega, by omega, e0 _ (by omega), e0 _ (by omega)⟩
  · have := fl_4 h k; exact ⟨by omega, by omega, by omega, by omega, e0 _ (by omega), e0 _ (by omega)⟩
  · have := fl_5 h k
    have h2 := txtL_ge t.is
    have h3 : (txt t).length = (txtL t.is).length + 2 := by rw [txt5 k]; simp
    exact ⟨by omega, by omega, by omega, by omega, fun x hx => by have := h2.2 x hx; omega, e0 _ (by omega)⟩
  · have := fl6' h k; exact ⟨by omega, by omega, by omega, by omega, e0 _ (by omega), e0 _ (by omega)⟩
  · have := fl7' h k
    have h2 := txtL_ge t.is
    have h3 : (txt t).length = (txtL t.is).length + (txtR t.rs).length + 2 := by rw [txt7 k]; simp; omega
    refine ⟨by omega, by omega, by omega, by omega, fun x hx => by have := h2.2 x hx; omega, fun x hx => ?_⟩
    cases hr : t.rs with
    | nil => rw [hr] at hx; cases hx
    | cons r rs =>
      rw [hr] at hx h3 this
      have hrs : rs = [] := (by have := this.2.1; simp at this; exact this)
      subst hrs
      obtain rfl : x = r := by simpa using hx
      rw [txtR] at h3
      simp at h3
      omega
  · have := fl_8 h k
    have h2 := joinB_ge t.bs
    have h3 : (txt t).length = (joinB t.bs).length + 4 := by rw [txt8 k]; simp
    exact ⟨by omega, by omega, by omega, by omega, e0 _ (by omega), e0 _ (by omega)⟩
theorem tok_text (t : T) : TFl t → NOk t → (txt t).length ≤ 1353245080300 → TOk t := by
  induction t using T.ind with
  | h k n nm is rs bs ih1 ih2 =>
    intro hfl hn hl
    have hf := TFl.eq.1 hfl
    have hm := NOk.eq.1 hn
    have hp := txt_parts hf.1
    have hk : fits k := by
      have := flds_kind hf.1
      simp only [T.k] at this
      unfold fits
      omega
    refine TFit.ok ⟨hk, hm.1, ?_, ?_, ?_, ?_, hm.2.1, fun x hx => ?_, fun x hx => ?_⟩
    · have := hp.1; omega
    · have := hp.2.1; omega
    · have := hp.2.2.1; omega
    · have := hp.2.2.2.1; omega
    · exact ih1 x hx (hf.2.1.mem hx) (hm.2.2.1.mem hx) (Nat.le_trans (hp.2.2.2.2.1 x hx) hl)
    · exact ih2 x hx (hf.2.2.mem hx) (hm.2.2.2.mem hx) (Nat.le_trans (hp.2.2.2.2.2 x hx) hl)
#print axioms tok_text
end Go.Proofs.YteaabbghnfideaaDoor
