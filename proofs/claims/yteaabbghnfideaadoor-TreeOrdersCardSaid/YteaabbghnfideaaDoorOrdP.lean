/-
  How terms compare is a total order; terms that compare as equal are one. (Plain.)
-/
import Derived.Test.YteaabbghnfideaaDoorTokT
namespace Go.Proofs.YteaabbghnfideaaDoor
open Go.RowKit
set_option maxHeartbeats 1000000

/-! ### the leaves -/
theorem bl_asymm : ∀ (a b : List UInt8), Op.bytesLess a b = true → Op.bytesLess b a = false ∧ (a == b) = false
  | [], [], h => by simp [Op.bytesLess] at h
  | [], _ :: _, _ => by simp [Op.bytesLess]
  | _ :: _, [], h => by simp [Op.bytesLess] at h
  | x :: a, y :: b, h => by
    simp only [Op.bytesLess, Bool.or_eq_true, decide_eq_true_eq, Bool.and_eq_true, beq_iff_eq] at h
    rcases h with h | ⟨rfl, h⟩
    · have h' : x.toNat < y.toNat := h
      have n1 : ¬ y < x := fun q => by have q' : y.toNat < x.toNat := q; omega
      have n2 : x ≠ y := fun q => by subst q; omega
      constructor
      · simp [Op.bytesLess, n1, Ne.symm n2]
      · simp [n2]
    · have := bl_asymm a b h
      have n1 : ¬ x < x := fun q => by have q' : x.toNat < x.toNat := q; omega
      constructor
      · simp [Op.bytesLess, n1, this.1]
      · simpa using this.2
theorem bl_total : ∀ (a b : List UInt8), Op.bytesLess a b = false → (a == b) = false → Op.bytesLess b a = true
  | [], [], _, h => by simp at h
  | [], _ :: _, h, _ => by simp [Op.bytesLess] at h
  | _ :: _, [], _, _ => by simp [Op.bytesLess]
  | x :: a, y :: b, h, h2 => by
    simp only [Op.bytesLess, Bool.or_eq_false_iff, decide_eq_false_iff_not, Bool.and_eq_false_iff, beq_eq_false_iff_ne] at h
    simp only [Op.bytesLess, Bool.or_eq_true, decide_eq_true_eq, Bool.and_eq_true, beq_iff_eq]
    by_cases q : x = y
    · subst q
      right
      refine ⟨rfl, bl_total a b ?_ ?_⟩
      · rcases h.2 with r | r
        · exact absurd rfl r
        · exact r
      · simpa using h2
    · left
      have n1 : ¬ x.toNat < y.toNat := h.1
      have n2 : x.toNat ≠ y.toNat := fun r => q (UInt8.toNat_inj.1 r)
      show y.toNat < x.toNat
      omega
theorem bl_trans : ∀ (a b c : List UInt8), Op.bytesLess a b = true → Op.bytesLess b c = true → Op.bytesLess a c = true
  | [], [], _, h, _ => by simp [Op.bytesLess] at h
  | [], _ :: _, [], _, h => by simp [Op.bytesLess] at h
  | [], _ :: _, _ :: _, _, _ => by simp [Op.bytesLess]
  | _ :: _, [], _, h, _ => by simp [Op.bytesLess] at h
  | _ :: _, _ :: _, [], _, h => by simp [Op.bytesLess] at h
  | x :: a, y :: b, z :: c, h1, h2 => by
    simp only [Op.bytesLess, Bool.or_eq_true, decide_eq_true_eq, Bool.and_eq_true, beq_iff_eq] at h1 h2 ⊢
    rcases h1 with h1 | ⟨rfl, h1⟩
    · rcases h2 with h2 | ⟨rfl, h2⟩
      · left
        have h1' : x.toNat < y.toNat := h1
        have h2' : y.toNat < z.toNat := h2
        show x.toNat < z.toNat
        omega
      · exact .inl h1
    · rcases h2 with h2 | ⟨rfl, h2⟩
      · exact .inl h2
      · exact .inr ⟨rfl, bl_trans a b c h1 h2⟩
/-- what holds of a comparison at three places -/
structure Tri (xy yz xz : Int) : Prop where
  zz : xy = 0 → yz = 0 → xz = 0
  lz : xy < 0 → yz ≤ 0 → xz < 0
  zl : xy = 0 → yz < 0 → xz < 0
theorem Tri.le {a b c : Int} (t : Tri a b c) (h1 : a ≤ 0) (h2 : b ≤ 0) : c ≤ 0 := by
  by_cases q : a < 0
  · have := t.lz q h2; omega
  · by_cases r : b < 0
    · have := t.zl (by omega) r; omega
    · have := t.zz (by omega) (by omega); omega
theorem ordB_neg (a b : Int) : ordB b a = -ordB a b := by unfold ordB; split <;> split <;> (try split) <;> omega
theorem ordB_lt {a b : Int} : ordB a b < 0 ↔ a < b := by unfold ordB; split <;> (try split) <;> omega
theorem ordB_le {a b : Int} : ordB a b ≤ 0 ↔ a ≤ b := by unfold ordB; split <;> (try split) <;> omega
theorem ordB_tri (a b c : Int) : Tri (ordB a b) (ordB b c) (ordB a c) := by
  refine ⟨fun h1 h2 => ?_, fun h1 h2 => ?_, fun h1 h2 => ?_⟩
  · rw [ordB_zero] at h1 h2 ⊢; omega
  · rw [ordB_lt] at h1 ⊢; rw [ordB_le] at h2; omega
  · rw [ordB_zero] at h1; rw [ordB_lt] at h2 ⊢; omega
theorem ba_ext {a b : ByteArray} (h : a.toList = b.toList) : a = b := by
  have h' : a.data.toList = b.data.toList := by rw [← ByteArray.toList_eq, ← ByteArray.toList_eq]; exact h
  obtain ⟨⟨a⟩⟩ := a
  obtain ⟨⟨b⟩⟩ := b
  simp only at h'
  rw [h']
theorem bl_irr (a : List UInt8) : Op.bytesLess a a = false := by
  cases h : Op.bytesLess a a with
  | false => rfl
  | true => have := (bl_asymm a a h).2; simp at this
theorem ordS_zero {a b : ByteArray} : ordS a b = 0 ↔ a = b := by
  unfold ordS
  constructor
  · intro h
    split at h
    · omega
    · split at h
      · rename_i q; exact ba_ext (by simpa using q)
      · omega
  · rintro rfl
    rw [if_neg (by rw [bl_irr]; simp), if_pos (by simp)]
theorem ordS_ltz {a b : ByteArray} : ordS a b < 0 ↔ Op.bytesLess a.toList b.toList = true := by
  unfold ordS
  by_cases q : Op.bytesLess a.toList b.toList = true
  · rw [if_pos q]; simp [q]
  · rw [if_neg q]; split <;> simp [q]
theorem ordS_neg (a b : ByteArray) : ordS b a = -ordS a b := by
  by_cases q : Op.bytesLess a.toList b.toList = true
  · have := bl_asymm _ _ q
    unfold ordS
    rw [if_pos q, if_neg (by rw [this.1]; simp), if_neg (by intro r; have e := eq_of_beq r; have := this.2; rw [e] at this; simp at this)]
    rfl
  · by_cases r : a = b
    · subst r; rw [ordS_zero.2 rfl]; rfl
    · have r' : (a.toList == b.toList) = false := by
        cases h : (a.toList == b.toList) with
        | false => rfl
        | true => exact absurd (ba_ext (eq_of_beq h)) r
      have := bl_total _ _ (by simpa using q) r'
      unfold ordS
      rw [if_pos this, if_neg q, if_neg (by rw [r']; simp)]
theorem ordS_tri (a b c : ByteArray) : Tri (ordS a b) (ordS b c) (ordS a c) := by
  refine ⟨fun h1 h2 => ?_, fun h1 h2 => ?_, fun h1 h2 => ?_⟩
  · rw [ordS_zero] at h1 h2 ⊢; rw [h1, h2]
  · by_cases q : ordS b c = 0
    · rw [ordS_zero] at q; rw [← q]; exact h1
    · have h3 : ordS b c < 0 := by omega
      rw [ordS_ltz] at h1 h3 ⊢
      exact bl_trans _ _ _ h1 h3
  · rw [ordS_zero] at h1; rw [h1]; exact h2
theorem leafB_neg {x y : T} (h : x.k = y.k) : leafB y x = -leafB x y := by
  unfold leafB
  rw [h]
  split
  · exact ordS_neg _ _
  · split
    · exact ordS_neg _ _
    · exact ordB_neg _ _
theorem leafB_tri {x y z : T} (h : x.k = y.k) : Tri (leafB x y) (leafB y z) (leafB x z) := by
  unfold leafB
  rw [h]
  split
  · exact ordS_tri _ _ _
  · split
    · exact ordS_tri _ _ _
    · exact ordB_tri _ _ _

/-! ### lists of comparisons -/
theorem fnz_neg : ∀ (l : List Int), fnz (l.map fun c => -c) = -fnz l
  | [] => rfl
  | c :: l => by
    rw [List.map_cons, fnz, fnz]
    by_cases h : c = 0
    · rw [if_pos (by omega), if_pos h, fnz_neg l]
    · rw [if_neg (by omega), if_neg h]
theorem fnz_two (a b : Int) : fnz [a, b] = if a = 0 then b else a := by
  rw [fnz, fnz, fnz]
  by_cases h : b = 0 <;> simp [h]
theorem Tri.two {a b c a' b' c' : Int} (h : Tri a b c) (h' : Tri a' b' c') : Tri (if a = 0 then a' else a) (if b = 0 then b' else b) (if c = 0 then c' else c) := by
  refine ⟨fun h1 h2 => ?_, fun h1 h2 => ?_, fun h1 h2 => ?_⟩
  · split at h1 <;> split at h2 <;> try omega
    rename_i p q
    rw [if_pos (h.zz p q)]; exact h'.zz h1 h2
  · split at h1
    · rename_i p
      split at h2
      · rename_i q
        rw [if_pos (h.zz p q)]; exact h'.lz h1 h2
      · rename_i q
        have := h.zl p (by omega)
        rw [if_neg (by omega)]; exact this
    · rename_i p
      split at h2
      · rename_i q
        have := h.lz h1 (by omega)
        rw [if_neg (by omega)]; exact this
      · have := h.lz h1 h2
        rw [if_neg (by omega)]; exact this
  · split at h1
    · rename_i p
      split at h2
      · rename_i q
        rw [if_pos (h.zz p q)]; exact h'.zl h1 h2
      · have := h.zl p h2
        rw [if_neg (by omega)]; exact this
    · omega
theorem fnz_tri : ∀ (xs ys zs : List T), xs.length = ys.length → ys.length = zs.length → (∀ x ∈ xs, ∀ y ∈ ys, ∀ z ∈ zs, Tri (cmp x y) (cmp y z) (cmp x z)) → Tri (fnz (List.zipWith cmp xs ys)) (fnz (List.zipWith cmp ys zs)) (fnz (List.zipWith cmp xs zs))
  | [], [], [], _, _, _ => ⟨fun _ _ => rfl, fun h => by simp [fnz] at h, fun _ h => by simp [fnz] at h⟩
  | x :: xs, y :: ys, z :: zs, h1, h2, f => by
    rw [List.zipWith_cons_cons, List.zipWith_cons_cons, List.zipWith_cons_cons, fnz, fnz, fnz]
    exact (f x (by simp) y (by simp) z (by simp)).two (fnz_tri xs ys zs (by simpa using h1) (by simpa using h2) fun x hx y hy z hz => f x (by simp [hx]) y (by simp [hy]) z (by simp [hz]))
  | [], _ :: _, _, h, _, _ => by simp at h
  | _ :: _, [], _, h, _, _ => by simp at h
  | _, [], _ :: _, _, h, _ => by simp at h
  | _, _ :: _, [], _, h, _ => by simp at h
theorem fnz_zip_neg : ∀ (xs ys : List T), (∀ x ∈ xs, ∀ y ∈ ys, cmp y x = -cmp x y) → fnz (List.zipWith cmp ys xs) = -fnz (List.zipWith cmp xs ys)
  | [], ys, _ => by cases ys <;> simp [fnz]
  | _ :: _, [], _ => by simp [fnz]
  | x :: xs, y :: ys, f => by
    rw [List.zipWith_cons_cons, List.zipWith_cons_cons, fnz, fnz, f x (by simp) y (by simp), fnz_zip_neg xs ys fun x hx y hy => f x (by simp [hx]) y (by simp [hy])]
    by_cases h : cmp x y = 0
    · rw [if_pos (by omega), if_pos h]
    · rw [if_neg (by omega), if_neg h]
theorem fnz_zip_eq : ∀ (xs ys : List T), xs.length = ys.length → (∀ x ∈ xs, ∀ y ∈ ys, cmp x y = 0 → x = y) → fnz (List.zipWith cmp xs ys) = 0 → xs = ys
  | [], [], _, _, _ => rfl
  | x :: xs, y :: ys, h, f, h0 => by
    rw [List.zipWith_cons_cons, fnz] at h0
    by_cases q : cmp x y = 0
    · rw [if_pos q] at h0
      rw [f x (by simp) y (by simp) q, fnz_zip_eq xs ys (by simpa using h) (fun x hx y hy => f x (by simp [hx]) y (by simp [hy])) h0]
    · rw [if_neg q] at h0; exact absurd h0 q
  | [], _ :: _, h, _, _ => by simp at h
  | _ :: _, [], h, _, _ => by simp at h

/-! ### lists, an item at a time -/
theorem left_left {x : T} (m : Nat) (h : 1 < x.is.length) : leftT (leftT x 1) m = leftT x (m + 1) := by
  have e : leftT x 1 = .mk 7 0 ByteArray.empty (x.is.drop 1) x.rs [] := by unfold leftT; rw [if_pos h]
  rw [e]
  show (if m < (x.is.drop 1).length then T.mk 7 0 ByteArray.empty ((x.is.drop 1).drop m) x.rs [] else x.rs.headD tNil) = (if m + 1 < x.is.length then T.mk 7 0 ByteArray.empty (x.is.drop (m + 1)) x.rs [] else x.rs.headD tNil)
  rw [List.length_drop, List.drop_drop, Nat.add_comm 1 m]
  by_cases q : m < x.is.length - 1
  · rw [if_pos q, if_pos (by omega)]
  · rw [if_neg q, if_neg (by omega)]
theorem left_k {x : T} (hx : TFl x) (hk : x.k = 7) : ((leftT x 1).k = 7 ↔ 1 < x.is.length) := by
  have hf := TFl.eq.1 hx
  have h7 := fl7' hf.1 hk
  unfold leftT
  by_cases h : 1 < x.is.length
  · rw [if_pos h]; simp [T.k, h]
  · rw [if_neg h]
    cases hr : x.rs with
    | nil => simp [tNil, T.k, h]
    | cons r rs =>
      have hrk : restK x = r.k := by unfold restK; rw [hr]
      have := h7.2.2.1 (by rw [hr]; rw [hr] at h7; simp at h7 ⊢; exact h7.2.1)
      rw [hrk] at this
      simp only [List.headD_cons]
      exact ⟨fun q => absurd q this.1, fun q => absurd q h⟩
theorem left_f {x : T} (n : Nat) (h : TFl x) (hk : x.k = 7) : TFl (leftT x n) := by
  have hf := TFl.eq.1 h
  have h7 := fl7' hf.1 hk
  unfold leftT
  split
  · rename_i hl
    refine TFl.eq.2 ⟨?_, LFl.of fun x hx => hf.2.1.mem (List.mem_of_mem_drop hx), hf.2.2⟩
    refine decide_eq_true (show (x.is.drop n).length ≠ 0 ∧ x.rs.length ≤ 1 ∧ (x.rs.length = 1 → restK x ≠ 7 ∧ restK x ≠ 6) ∧ (0 : Int) = 0 ∧ ByteArray.empty.size = 0 ∧ ([] : List Int).length = 0 from ⟨by rw [List.length_drop]; omega, h7.2.1, h7.2.2.1, rfl, rfl, rfl⟩)
  · cases hr : x.rs with
    | nil => exact TFl.eq.2 ⟨rfl, by simp [LFl, tNil, T.is], by simp [LFl, tNil, T.rs]⟩
    | cons r rs => exact hf.2.2.mem (by rw [hr]; simp)
theorem cmp_cons {x y : T} (hx : TFl x) (hy : TFl y) (h7 : x.k = 7) (h7' : y.k = 7) : ∃ x0 xs y0 ys, x.is = x0 :: xs ∧ y.is = y0 :: ys ∧ cmp x y = if cmp x0 y0 = 0 then cmp (leftT x 1) (leftT y 1) else cmp x0 y0 := by
  have lx := fl7' (TFl.eq.1 hx).1 h7
  have ly := fl7' (TFl.eq.1 hy).1 h7'
  cases ex : x.is with
  | nil => rw [ex] at lx; simp at lx
  | cons x0 xs =>
    cases ey : y.is with
    | nil => rw [ey] at ly; simp at ly
    | cons y0 ys =>
      refine ⟨x0, xs, y0, ys, rfl, rfl, ?_⟩
      rw [cmp_eq, if_neg (by rw [h7, h7']; simp), if_neg (by rw [h7]; decide), if_pos h7, ex, ey, List.zipWith_cons_cons, List.cons_append, fnz]
      by_cases h0 : cmp x0 y0 = 0
      · rw [if_pos h0, if_pos h0]
        by_cases both : xs ≠ [] ∧ ys ≠ []
        · have l1 : 1 < x.is.length := by rw [ex]; have := List.length_pos_iff.2 both.1; simp; omega
          have l2 : 1 < y.is.length := by rw [ey]; have := List.length_pos_iff.2 both.2; simp; omega
          have e1 : leftT x 1 = .mk 7 0 ByteArray.empty xs x.rs [] := by unfold leftT; rw [if_pos l1, ex]; rfl
          have e2 : leftT y 1 = .mk 7 0 ByteArray.empty ys y.rs [] := by unfold leftT; rw [if_pos l2, ey]; rfl
          have hm : min (x0 :: xs).length (y0 :: ys).length = min xs.length ys.length + 1 := by simp only [List.length_cons]; omega
          rw [hm, ← left_left _ l1, ← left_left _ l2]
          rw [cmp_eq (leftT x 1) (leftT y 1), e1, e2]
          simp only [T.k, T.is, ne_eq, not_true_eq_false, if_false, if_true]
          rw [if_neg (by decide)]
        · have hm : min (x0 :: xs).length (y0 :: ys).length = 1 := by
            simp only [List.length_cons]
            by_cases q : xs = []
            · rw [q]; simp
            · have : ys = [] := Classical.byContradiction fun r => both ⟨q, r⟩
              rw [this]; simp
          have hz : List.zipWith cmp xs ys = [] := by
            by_cases q : xs = []
            · rw [q]; simp
            · have : ys = [] := Classical.byContradiction fun r => both ⟨q, r⟩
              rw [this]; simp
          rw [hm, hz, List.nil_append, fnz, fnz]
          by_cases q : cmp (leftT x 1) (leftT y 1) = 0
          · rw [if_pos q, q]
          · rw [if_neg q]
      · rw [if_neg h0, if_neg h0]
theorem wt_cons {x x0 : T} {xs : List T} (h7 : x.k = 7) (e : x.is = x0 :: xs) : wt x0 < wt x ∧ wt (leftT x 1) < wt x := by
  have h1 := wt_left x 1 h7
  rw [e] at h1
  have h2 := wt_pos x0
  simp only [List.take_succ_cons, List.take_zero, wtL] at h1
  have h3 := wt_eq x
  rw [e, wtL] at h3
  exact ⟨by omega, by omega⟩
theorem wt_item {x a : T} (h : a ∈ x.is) : wt a < wt x := by
  have h3 := wt_eq x
  have : ∀ (l : List T), a ∈ l → wt a ≤ wtL l := by
    intro l
    induction l with
    | nil => intro h; cases h
    | cons y l ih =>
      intro h
      rw [wtL]
      rcases List.mem_cons.1 h with rfl | h
      · omega
      · have := ih h; omega
  have := this _ h
  omega

/-! ### the order -/
theorem cmp_neg : ∀ (f : Nat) (x y : T), wt x + wt y ≤ f → TFl x → TFl y → cmp y x = -cmp x y
  | 0, x, y, h, _, _ => by have := wt_pos x; omega
  | f + 1, x, y, h, hx, hy => by
    by_cases hk : x.k = y.k
    · by_cases h5 : x.k = 5
      · by_cases hl : x.is.length = y.is.length
        · rw [cmp_eq, cmp_eq x y, if_neg (by simp [hk]), if_pos (by rw [← hk]; exact h5), if_neg (by simp [hl]), if_neg (by simp [hk]), if_pos h5, if_neg (by simp [hl])]
          refine fnz_zip_neg _ _ fun a ha b hb => cmp_neg f a b ?_ ((TFl.eq.1 hx).2.1.mem ha) ((TFl.eq.1 hy).2.1.mem hb)
          have := wt_item ha
          have := wt_item hb
          omega
        · rw [cmp_len (by rw [← hk]; exact h5) h5 (Ne.symm hl), cmp_len h5 (by rw [← hk]; exact h5) hl]
          exact ordB_neg _ _
      · by_cases h7 : x.k = 7
        · obtain ⟨x0, xs, y0, ys, e1, e2, e⟩ := cmp_cons hx hy h7 (by rw [← hk]; exact h7)
          obtain ⟨y0', ys', x0', xs', e3, e4, e'⟩ := cmp_cons hy hx (by rw [← hk]; exact h7) h7
          rw [e2] at e3
          rw [e1] at e4
          cases e3
          cases e4
          have w1 := wt_cons h7 e1
          have w2 := wt_cons (by rw [← hk]; exact h7) e2
          have i1 := cmp_neg f x0 y0 (by omega) ((TFl.eq.1 hx).2.1.mem (by rw [e1]; simp)) ((TFl.eq.1 hy).2.1.mem (by rw [e2]; simp))
          have i2 := cmp_neg f (leftT x 1) (leftT y 1) (by omega) (left_f 1 hx h7) (left_f 1 hy (by rw [← hk]; exact h7))
          rw [e, e']
          by_cases q : cmp x0 y0 = 0
          · rw [if_pos (by omega), if_pos q, i2]
          · rw [if_neg (by omega), if_neg q, i1]
        · rw [cmp_leaf hk.symm (by rw [← hk]; exact h5) (by rw [← hk]; exact h7), cmp_leaf hk h5 h7]
          exact leafB_neg hk
    · rw [cmp_kind (Ne.symm hk), cmp_kind hk]
      exact ordB_neg _ _
theorem cmp_tri : ∀ (f : Nat) (x y z : T), wt x + wt y + wt z ≤ f → TFl x → TFl y → TFl z → Tri (cmp x y) (cmp y z) (cmp x z)
  | 0, x, y, z, h, _, _, _ => by have := wt_pos x; omega
  | f + 1, x, y, z, h, hx, hy, hz => by
    by_cases hk : x.k = y.k
    · by_cases hk2 : y.k = z.k
      · by_cases h5 : x.k = 5
        · have h5' : y.k = 5 := by omega
          have h5'' : z.k = 5 := by omega
          have hlen : ∀ {a b : T}, a.k = 5 → b.k = 5 → cmp a b = if ordB a.is.length b.is.length = 0 then fnz (List.zipWith cmp a.is b.is) else ordB a.is.length b.is.length := by
            intro a b ha hb
            by_cases q : a.is.length = b.is.length
            · rw [if_pos (ordB_zero.2 (by rw [q])), cmp_eq, if_neg (by simp [ha, hb]), if_pos ha, if_neg (by simp [q])]
            · rw [cmp_len ha hb q, if_neg (fun r => q (by have := ordB_zero.1 r; omega))]
          rw [hlen h5 h5', hlen h5' h5'', hlen h5 h5'']
          by_cases all : x.is.length = y.is.length ∧ y.is.length = z.is.length
          · refine (ordB_tri _ _ _).two (fnz_tri _ _ _ all.1 all.2 fun a ha b hb c hc => cmp_tri f a b c ?_ ((TFl.eq.1 hx).2.1.mem ha) ((TFl.eq.1 hy).2.1.mem hb) ((TFl.eq.1 hz).2.1.mem hc))
            have := wt_item ha
            have := wt_item hb
            have := wt_item hc
            omega
          · have t := ordB_tri (x.is.length : Int) y.is.length z.is.length
            refine ⟨fun h1 h2 => ?_, fun h1 h2 => ?_, fun h1 h2 => ?_⟩
            · exfalso
              split at h1
              · rename_i q
                split at h2
                · rename_i r
                  have := ordB_zero.1 q
                  have := ordB_zero.1 r
                  exact all ⟨by omega, by omega⟩
                · rename_i r; exact r h2
              · rename_i q; exact q h1
            · by_cases q : ordB (x.is.length : Int) y.is.length = 0
              · rw [if_pos q] at h1
                by_cases r : ordB (y.is.length : Int) z.is.length = 0
                · have := ordB_zero.1 q
                  have := ordB_zero.1 r
                  exact absurd ⟨by omega, by omega⟩ all
                · rw [if_neg r] at h2
                  have := t.zl q (by omega)
                  rw [if_neg (by omega)]; exact this
              · rw [if_neg q] at h1
                have h2' : ordB (y.is.length : Int) z.is.length ≤ 0 := by
                  split at h2
                  · omega
                  · exact h2
                have := t.lz h1 h2'
                rw [if_neg (by omega)]; exact this
            · by_cases q : ordB (x.is.length : Int) y.is.length = 0
              · by_cases r : ordB (y.is.length : Int) z.is.length = 0
                · have := ordB_zero.1 q
                  have := ordB_zero.1 r
                  exact absurd ⟨by omega, by omega⟩ all
                · rw [if_neg r] at h2
                  have := t.zl q h2
                  rw [if_neg (by omega)]; exact this
              · rw [if_neg q] at h1; exact absurd h1 q
        · by_cases h7 : x.k = 7
          · have h7' : y.k = 7 := by omega
            have h7'' : z.k = 7 := by omega
            obtain ⟨x0, xs, y0, ys, e1, e2, e⟩ := cmp_cons hx hy h7 h7'
            obtain ⟨y1, ys1, z0, zs, e3, e4, e'⟩ := cmp_cons hy hz h7' h7''
            obtain ⟨x1, xs1, z1, zs1, e5, e6, e''⟩ := cmp_cons hx hz h7 h7''
            rw [e2] at e3
            rw [e1] at e5
            rw [e4] at e6
            cases e3
            cases e5
            cases e6
            have w1 := wt_cons h7 e1
            have w2 := wt_cons h7' e2
            have w3 := wt_cons h7'' e4
            rw [e, e', e'']
            exact (cmp_tri f x0 y0 z0 (by omega) ((TFl.eq.1 hx).2.1.mem (by rw [e1]; simp)) ((TFl.eq.1 hy).2.1.mem (by rw [e2]; simp)) ((TFl.eq.1 hz).2.1.mem (by rw [e4]; simp))).two
              (cmp_tri f (leftT x 1) (leftT y 1) (leftT z 1) (by omega) (left_f 1 hx h7) (left_f 1 hy h7') (left_f 1 hz h7''))
          · rw [cmp_leaf hk h5 h7, cmp_leaf hk2 (by rw [← hk]; exact h5) (by rw [← hk]; exact h7), cmp_leaf (by omega) h5 h7]
            exact leafB_tri hk
      · have c2 := cmp_kind hk2
        have c3 : cmp x z = ordB x.k z.k := cmp_kind (by omega)
        rw [c2, c3, hk]
        have n0 : ordB y.k z.k ≠ 0 := fun q => hk2 (ordB_zero.1 q)
        exact ⟨fun _ q => absurd q n0, fun _ q => by omega, fun _ q => q⟩
    · have c1 := cmp_kind hk
      have n0 : ordB x.k y.k ≠ 0 := fun q => hk (ordB_zero.1 q)
      rw [c1]
      refine ⟨fun q => absurd q n0, fun h1 h2 => ?_, fun q => absurd q n0⟩
      have l1 := ordB_lt.1 h1
      have l2 : y.k ≤ z.k := by
        by_cases q : y.k = z.k
        · omega
        · rw [cmp_kind q] at h2; exact ordB_le.1 h2
      rw [cmp_kind (by omega)]
      exact ordB_lt.2 (by omega)
theorem cmp_self : ∀ (f : Nat) (x : T), wt x ≤ f → TFl x → cmp x x = 0
  | f, x, _, hx => by have := cmp_neg _ x x (Nat.le_refl _) hx hx; omega
theorem T.ext6 {x y : T} (h1 : x.k = y.k) (h2 : x.n = y.n) (h3 : x.nm = y.nm) (h4 : x.is = y.is) (h5 : x.rs = y.rs) (h6 : x.bs = y.bs) : x = y := by
  cases x; cases y
  simp only [T.k, T.n, T.nm, T.is, T.rs, T.bs] at h1 h2 h3 h4 h5 h6
  subst h1; subst h2; subst h3; subst h4; subst h5; subst h6; rfl
theorem left_nok {x : T} (n : Nat) (h : NOk x) : NOk (leftT x n) := by
  have hm := NOk.eq.1 h
  have hf0 : fits 0 := by unfold fits; decide
  unfold leftT
  split
  · refine NOk.eq.2 ⟨hf0, by simp [T.bs], ?_, hm.2.2.2⟩
    have : ∀ (l : List T), (∀ t ∈ l, NOk t) → LNOk l := by
      intro l
      induction l with
      | nil => intro _; simp [LNOk]
      | cons t l ih => intro f; unfold LNOk; exact ⟨f t (by simp), ih fun x hx => f x (by simp [hx])⟩
    exact this _ fun t ht => hm.2.2.1.mem (List.mem_of_mem_drop ht)
  · cases hr : x.rs with
    | nil => exact NOk.eq.2 ⟨hf0, by simp [tNil, T.bs], by simp [LNOk, tNil, T.is], by simp [LNOk, tNil, T.rs]⟩
    | cons r rs => exact hm.2.2.2.mem (by rw [hr]; simp)
theorem strNums_inj {a b : List Int} (ha : InB a) (hb : InB b) (h : strOfNums a = strOfNums b) : a = b := by
  rw [← strOf_byts a ha, ← strOf_byts b hb, h]
theorem cmp_zero : ∀ (f : Nat) (x y : T), wt x + wt y ≤ f → TFl x → TFl y → NOk x → NOk y → cmp x y = 0 → x = y
  | 0, x, y, h, _, _, _, _, _ => by have := wt_pos x; omega
  | f + 1, x, y, h, hx, hy, nx, ny, h0 => by
    have fx := TFl.eq.1 hx
    have fy := TFl.eq.1 hy
    have mx := NOk.eq.1 nx
    have my := NOk.eq.1 ny
    have em : ∀ {a b : ByteArray}, a.size = 0 → b.size = 0 → a = b := fun ha hb => (size0 ha).trans (size0 hb).symm
    have el : ∀ {α : Type} {a b : List α}, a.length = 0 → b.length = 0 → a = b := fun ha hb => (List.eq_nil_of_length_eq_zero ha).trans (List.eq_nil_of_length_eq_zero hb).symm
    by_cases hk : x.k = y.k
    · by_cases h5 : x.k = 5
      · have f5 := fl_5 fx.1 h5
        have g5 := fl_5 fy.1 (by omega)
        by_cases hl : x.is.length = y.is.length
        · rw [cmp_eq, if_neg (by simp [hk]), if_pos h5, if_neg (by simp [hl])] at h0
          have hi := fnz_zip_eq _ _ hl (fun a ha b hb => cmp_zero f a b (by have := wt_item ha; have := wt_item hb; omega) (fx.2.1.mem ha) (fy.2.1.mem hb) (mx.2.2.1.mem ha) (my.2.2.1.mem hb)) h0
          exact T.ext6 hk (f5.1.trans g5.1.symm) (em f5.2.1 g5.2.1) hi (el (by omega) (by omega)) (el (by omega) (by omega))
        · rw [cmp_len h5 (by rw [← hk]; exact h5) hl, ordB_zero] at h0
          exact absurd (by omega) hl
      · by_cases h7 : x.k = 7
        · have h7' : y.k = 7 := by omega
          have f7 := fl7' fx.1 h7
          have g7 := fl7' fy.1 h7'
          obtain ⟨x0, xs, y0, ys, e1, e2, e⟩ := cmp_cons hx hy h7 h7'
          have w1 := wt_cons h7 e1
          have w2 := wt_cons h7' e2
          rw [e] at h0
          by_cases q : cmp x0 y0 = 0
          · rw [if_pos q] at h0
            have i1 := cmp_zero f x0 y0 (by omega) (fx.2.1.mem (by rw [e1]; simp)) (fy.2.1.mem (by rw [e2]; simp)) (mx.2.2.1.mem (by rw [e1]; simp)) (my.2.2.1.mem (by rw [e2]; simp)) q
            have i2 := cmp_zero f (leftT x 1) (leftT y 1) (by omega) (left_f 1 hx h7) (left_f 1 hy h7') (left_nok 1 nx) (left_nok 1 ny) h0
            have kx := left_k hx h7
            have ky := left_k hy h7'
            have both : x.is = y.is ∧ x.rs = y.rs := by
              by_cases l : 1 < x.is.length
              · have l' : 1 < y.is.length := ky.1 (by rw [← i2]; exact kx.2 l)
                have ex : leftT x 1 = .mk 7 0 ByteArray.empty xs x.rs [] := by unfold leftT; rw [if_pos l, e1]; rfl
                have ey : leftT y 1 = .mk 7 0 ByteArray.empty ys y.rs [] := by unfold leftT; rw [if_pos l', e2]; rfl
                rw [ex, ey] at i2
                injection i2 with _ _ _ a b _
                exact ⟨by rw [e1, e2, i1, a], b⟩
              · have l' : ¬ 1 < y.is.length := fun r => l (kx.1 (by rw [i2]; exact ky.2 r))
                have ex : leftT x 1 = x.rs.headD tNil := by unfold leftT; rw [if_neg l]
                have ey : leftT y 1 = y.rs.headD tNil := by unfold leftT; rw [if_neg l']
                rw [ex, ey] at i2
                have hxs : xs = [] := List.eq_nil_of_length_eq_zero (by rw [e1, List.length_cons] at l; omega)
                have hys : ys = [] := List.eq_nil_of_length_eq_zero (by rw [e2, List.length_cons] at l'; omega)
                refine ⟨by rw [e1, e2, i1, hxs, hys], ?_⟩
                cases hr : x.rs with
                | nil =>
                  cases hs : y.rs with
                  | nil => rfl
                  | cons s ss =>
                    rw [hr, hs] at i2
                    simp only [List.headD_nil, List.headD_cons] at i2
                    have hlen : y.rs.length = 1 := by have := g7.2.1; rw [hs] at this ⊢; simp at this ⊢; exact this
                    have := g7.2.2.1 hlen
                    unfold restK at this
                    rw [hs, ← i2] at this
                    exact absurd rfl this.2
                | cons r rs =>
                  have hlen : x.rs.length = 1 := by have := f7.2.1; rw [hr] at this ⊢; simp at this ⊢; exact this
                  have hrs : rs = [] := List.eq_nil_of_length_eq_zero (by rw [hr] at hlen; simp at hlen; simp [hlen])
                  cases hs : y.rs with
                  | nil =>
                    rw [hr, hs] at i2
                    simp only [List.headD_nil, List.headD_cons] at i2
                    have := f7.2.2.1 hlen
                    unfold restK at this
                    rw [hr, i2] at this
                    exact absurd rfl this.2
                  | cons s ss =>
                    have hlen' : y.rs.length = 1 := by have := g7.2.1; rw [hs] at this ⊢; simp at this ⊢; exact this
                    have hss : ss = [] := List.eq_nil_of_length_eq_zero (by rw [hs] at hlen'; simp at hlen'; simp [hlen'])
                    rw [hr, hs] at i2
                    simp only [List.headD_cons] at i2
                    rw [hrs, hss, i2]
            exact T.ext6 hk (f7.2.2.2.1.trans g7.2.2.2.1.symm) (em f7.2.2.2.2.1 g7.2.2.2.2.1) both.1 both.2 (el f7.2.2.2.2.2 g7.2.2.2.2.2)
          · rw [if_neg q] at h0; exact absurd h0 q
        · rw [cmp_leaf hk h5 h7] at h0
          unfold leafB at h0
          rcases flds_kind fx.1 with k | k | k | k | k | k | k | k
          · have a := fl_1 fx.1 k
            have b := fl_1 fy.1 (by omega)
            rw [if_neg (by omega), if_neg (by omega), ordB_zero] at h0
            exact T.ext6 hk h0 (em a.1 b.1) (el (by omega) (by omega)) (el (by omega) (by omega)) (el (by omega) (by omega))
          · have a := fl_2 fx.1 k
            have b := fl_2 fy.1 (by omega)
            rw [if_neg (by omega), if_pos k, ordS_zero] at h0
            exact T.ext6 hk (a.1.trans b.1.symm) h0 (el (by omega) (by omega)) (el (by omega) (by omega)) (el (by omega) (by omega))
          · have a := fl_3 fx.1 k
            have b := fl_3 fy.1 (by omega)
            rw [if_neg (by omega), if_neg (by omega), ordB_zero] at h0
            exact T.ext6 hk h0 (em a.2.2.1 b.2.2.1) (el (by omega) (by omega)) (el (by omega) (by omega)) (el (by omega) (by omega))
          · have a := fl_4 fx.1 k
            have b := fl_4 fy.1 (by omega)
            rw [if_neg (by omega), if_neg (by omega), ordB_zero] at h0
            exact T.ext6 hk h0 (em a.2.2.1 b.2.2.1) (el (by omega) (by omega)) (el (by omega) (by omega)) (el (by omega) (by omega))
          · exact absurd k h5
          · have a := fl6' fx.1 k
            have b := fl6' fy.1 (by omega)
            exact T.ext6 hk (a.1.trans b.1.symm) (em a.2.1 b.2.1) (el (by omega) (by omega)) (el (by omega) (by omega)) (el (by omega) (by omega))
          · exact absurd k h7
          · have a := fl_8 fx.1 k
            have b := fl_8 fy.1 (by omega)
            rw [if_pos k, ordS_zero] at h0
            exact T.ext6 hk (a.1.trans b.1.symm) (em a.2.1 b.2.1) (el (by omega) (by omega)) (el (by omega) (by omega)) (strNums_inj mx.2.1 my.2.1 h0)
    · rw [cmp_kind hk, ordB_zero] at h0; exact absurd h0 hk
#print axioms cmp_tri
#print axioms cmp_zero
end Go.Proofs.YteaabbghnfideaaDoor
