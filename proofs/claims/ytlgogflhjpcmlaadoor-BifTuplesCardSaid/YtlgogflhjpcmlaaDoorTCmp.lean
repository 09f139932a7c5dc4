/-
  How two terms compare: plain. A stack of pairs, and what it comes to.
-/
import Derived.Test.YtlgogflhjpcmlaaDoorTWords
import Derived.Test.YtlgogflhjpcmlaaDoorCmpK
import Derived.Laws.BytesArg
namespace Go.Proofs.YtlgogflhjpcmlaaDoor
open Go.RowKit

def ordS (a b : ByteArray) : Int := if Op.bytesLess a.toList b.toList = true then -1 else if (a.toList == b.toList) = true then 0 else 1
def leafB (x y : T) : Int := if x.k = 8 then ordS (strOfNums x.bs) (strOfNums y.bs) else if x.k = 2 then ordS x.nm y.nm else ordB x.n y.n
def tNil : T := .mk 6 0 ByteArray.empty [] [] []
def leftT (t : T) (n : Nat) : T := if n < t.is.length then .mk 7 0 ByteArray.empty (t.is.drop n) t.rs [] else t.rs.headD tNil
mutual
def wt : T → Nat
  | .mk k _ _ is rs _ => 2 + (if k = 7 then 1 else 0) + (wtL is + wtL rs)
def wtL : List T → Nat
  | [] => 0
  | t :: ts => wt t + wtL ts
end
theorem wt_eq (t : T) : wt t = 2 + (if t.k = 7 then 1 else 0) + (wtL t.is + wtL t.rs) := by cases t with | mk k n nm is rs bs => rw [wt]; rfl
theorem wtL_append : ∀ (a b : List T), wtL (a ++ b) = wtL a + wtL b
  | [], b => by simp [wtL]
  | t :: a, b => by rw [List.cons_append, wtL, wtL, wtL_append a b]; omega
theorem wt_pos (t : T) : 2 ≤ wt t := by rw [wt_eq]; omega
def fnz : List Int → Int
  | [] => 0
  | c :: cs => if c = 0 then fnz cs else c
theorem fnz_append (a b : List Int) : fnz (a ++ b) = if fnz a = 0 then fnz b else fnz a := by
  induction a with
  | nil => simp [fnz]
  | cons c cs ih =>
    rw [List.cons_append, fnz, fnz]
    by_cases h : c = 0
    · rw [if_pos h, if_pos h, ih]
    · rw [if_neg h, if_neg h, if_neg h]
def cmpF : Nat → T → T → Int
  | 0, _, _ => 0
  | f + 1, x, y =>
    if x.k ≠ y.k then ordB x.k y.k
    else if x.k = 5 then (if x.is.length ≠ y.is.length then ordB x.is.length y.is.length else fnz (List.zipWith (cmpF f) x.is y.is))
    else if x.k = 7 then fnz (List.zipWith (cmpF f) x.is y.is ++ [cmpF f (leftT x (min x.is.length y.is.length)) (leftT y (min x.is.length y.is.length))])
    else leafB x y
theorem zip_congr {F G : T → T → Int} : ∀ (xs ys : List T), (∀ p ∈ List.zip xs ys, F p.1 p.2 = G p.1 p.2) → List.zipWith F xs ys = List.zipWith G xs ys
  | [], _, _ => by simp
  | _ :: _, [], _ => by simp
  | x :: xs, y :: ys, h => by
    rw [List.zipWith_cons_cons, List.zipWith_cons_cons, h (x, y) (by simp), zip_congr xs ys fun p hp => h p (by simp [hp])]
def wtP (l : List (T × T)) : Nat := (l.map fun p => wt p.1 + wt p.2).sum
theorem wtP_cons (p : T × T) (l : List (T × T)) : wtP (p :: l) = wt p.1 + wt p.2 + wtP l := by simp [wtP]
theorem wtP_append (a b : List (T × T)) : wtP (a ++ b) = wtP a + wtP b := by simp [wtP]
theorem wtP_mem {l : List (T × T)} {p : T × T} (h : p ∈ l) : wt p.1 + wt p.2 ≤ wtP l := by
  induction l with
  | nil => cases h
  | cons q l ih =>
    rw [wtP_cons]
    rcases List.mem_cons.1 h with rfl | h
    · omega
    · have := ih h; omega
theorem wtP_zip : ∀ (xs ys : List T), wtP (List.zip xs ys) = wtL (xs.take ys.length) + wtL (ys.take xs.length)
  | [], ys => by simp [wtP, wtL]
  | x :: xs, [] => by simp [wtP, wtL]
  | x :: xs, y :: ys => by
    rw [List.zip_cons_cons, wtP_cons, wtP_zip xs ys]
    simp only [List.length_cons, List.take_succ_cons, wtL]
    omega
theorem wtL_split (l : List T) (n : Nat) : wtL l = wtL (l.take n) + wtL (l.drop n) := by rw [← wtL_append, List.take_append_drop]
theorem wt_left (x : T) (n : Nat) (hk : x.k = 7) : wt (leftT x n) + wtL (x.is.take n) ≤ wt x ∧ (x.is.length ≤ n → wt (leftT x n) + wtL (x.is.take n) < wt x) := by
  unfold leftT
  have hw := wt_eq x
  rw [if_pos hk] at hw
  by_cases h : n < x.is.length
  · rw [if_pos h, wt, if_pos rfl]
    have := wtL_split x.is n
    exact ⟨by omega, by omega⟩
  · rw [if_neg h]
    rw [List.take_of_length_le (by omega)]
    cases hr : x.rs with
    | nil =>
      rw [hr, wtL] at hw
      have : wt tNil = 2 := by rfl
      simp only [List.headD_nil]
      omega
    | cons r rs =>
      rw [hr, wtL] at hw
      simp only [List.headD_cons]
      omega
/-- what is pushed in the place of a pair -/
theorem wt_list {x y : T} (hx : x.k = 7) (hy : y.k = 7) : wtP (List.zip x.is y.is) + (wt (leftT x (min x.is.length y.is.length)) + wt (leftT y (min x.is.length y.is.length))) < wt x + wt y := by
  rw [wtP_zip]
  have h1 := wt_left x (min x.is.length y.is.length) hx
  have h2 := wt_left y (min x.is.length y.is.length) hy
  have e1 : x.is.take y.is.length = x.is.take (min x.is.length y.is.length) := by
    by_cases h : x.is.length ≤ y.is.length
    · rw [List.take_of_length_le h, List.take_of_length_le (by omega)]
    · rw [Nat.min_eq_right (by omega)]
  have e2 : y.is.take x.is.length = y.is.take (min x.is.length y.is.length) := by
    by_cases h : y.is.length ≤ x.is.length
    · rw [List.take_of_length_le h, List.take_of_length_le (by omega)]
    · rw [Nat.min_eq_left (by omega)]
  rw [e1, e2]
  rcases Nat.le_total x.is.length y.is.length with h | h
  · have := h1.2 (by omega); omega
  · have := h2.2 (by omega); omega
theorem wtL_take (l : List T) (n : Nat) : wtL (l.take n) ≤ wtL l := by have := wtL_split l n; omega
theorem wt_tup (x y : T) : wtP (List.zip x.is y.is) < wt x + wt y := by
  rw [wtP_zip, wt_eq x, wt_eq y]
  have := wtL_take x.is y.is.length
  have := wtL_take y.is x.is.length
  omega
theorem cmpF_stable : ∀ (f g : Nat) (x y : T), wt x + wt y ≤ f → wt x + wt y ≤ g → cmpF f x y = cmpF g x y
  | 0, _, x, y, h, _ => by have := wt_pos x; omega
  | _ + 1, 0, x, y, _, h => by have := wt_pos x; omega
  | f + 1, g + 1, x, y, hf, hg => by
    unfold cmpF
    have hz : List.zipWith (cmpF f) x.is y.is = List.zipWith (cmpF g) x.is y.is := by
      refine zip_congr _ _ fun p hp => ?_
      have h1 := wtP_mem hp
      have h2 := wt_tup x y
      exact cmpF_stable f g p.1 p.2 (by omega) (by omega)
    by_cases hk : x.k ≠ y.k
    · rw [if_pos hk, if_pos hk]
    · rw [if_neg hk, if_neg hk, hz]
      by_cases h5 : x.k = 5
      · rw [if_pos h5, if_pos h5]
      · rw [if_neg h5, if_neg h5]
        by_cases h7 : x.k = 7
        · rw [if_pos h7, if_pos h7]
          have hw := wt_list (x := x) (y := y) h7 (by rw [← Decidable.not_not.1 hk]; exact h7)
          rw [cmpF_stable f g _ _ (by omega) (by omega)]
        · rw [if_neg h7, if_neg h7]
def cmp (x y : T) : Int := cmpF (wt x + wt y) x y
theorem cmp_of {f : Nat} {x y : T} (h : wt x + wt y ≤ f) : cmpF f x y = cmp x y := cmpF_stable _ _ _ _ h (Nat.le_refl _)
theorem cmp_eq (x y : T) : cmp x y = if x.k ≠ y.k then ordB x.k y.k
    else if x.k = 5 then (if x.is.length ≠ y.is.length then ordB x.is.length y.is.length else fnz (List.zipWith cmp x.is y.is))
    else if x.k = 7 then fnz (List.zipWith cmp x.is y.is ++ [cmp (leftT x (min x.is.length y.is.length)) (leftT y (min x.is.length y.is.length))])
    else leafB x y := by
  have hp := wt_pos x
  have hd : cmp x y = cmpF ((wt x + wt y - 1) + 1) x y := by unfold cmp; congr 1; omega
  rw [hd]
  unfold cmpF
  have hz : List.zipWith (cmpF (wt x + wt y - 1)) x.is y.is = List.zipWith cmp x.is y.is := by
    refine zip_congr _ _ fun p hp => ?_
    have h1 := wtP_mem hp
    have h2 := wt_tup x y
    exact cmp_of (by omega)
  by_cases hk : x.k ≠ y.k
  · rw [if_pos hk, if_pos hk]
  · rw [if_neg hk, if_neg hk, hz]
    by_cases h5 : x.k = 5
    · rw [if_pos h5, if_pos h5]
    · rw [if_neg h5, if_neg h5]
      by_cases h7 : x.k = 7
      · rw [if_pos h7, if_pos h7]
        have hw := wt_list (x := x) (y := y) h7 (by rw [← Decidable.not_not.1 hk]; exact h7)
        rw [cmp_of (by omega)]
      · rw [if_neg h7, if_neg h7]
/-- what a stack comes to, its top first -/
def ans : List (T × T) → Int
  | [] => 0
  | p :: st => if cmp p.1 p.2 = 0 then ans st else cmp p.1 p.2
theorem ans_append (a st : List (T × T)) : ans (a ++ st) = if fnz (a.map fun p => cmp p.1 p.2) = 0 then ans st else fnz (a.map fun p => cmp p.1 p.2) := by
  induction a with
  | nil => simp [fnz]
  | cons p a ih =>
    rw [List.cons_append, ans, List.map_cons, fnz]
    by_cases h : cmp p.1 p.2 = 0
    · rw [if_pos h, if_pos h, ih]
    · rw [if_neg h, if_neg h, if_neg h]
theorem map_zip (xs ys : List T) : (List.zip xs ys).map (fun p => cmp p.1 p.2) = List.zipWith cmp xs ys := by
  rw [List.zip, List.map_zipWith]
theorem ans_tup {x y : T} {st : List (T × T)} (hk : x.k = 5) (hy : y.k = 5) (hl : x.is.length = y.is.length) : ans ((x, y) :: st) = ans (List.zip x.is y.is ++ st) := by
  rw [ans, ans_append, map_zip]
  have : cmp x y = fnz (List.zipWith cmp x.is y.is) := by
    rw [cmp_eq, if_neg (by rw [hk, hy]; simp), if_pos hk, if_neg (by simp [hl])]
  rw [this]
theorem ans_list {x y : T} {st : List (T × T)} (hk : x.k = 7) (hy : y.k = 7) : ans ((x, y) :: st) = ans (List.zip x.is y.is ++ (leftT x (min x.is.length y.is.length), leftT y (min x.is.length y.is.length)) :: st) := by
  rw [ans, ans_append, map_zip, ans]
  have : cmp x y = fnz (List.zipWith cmp x.is y.is ++ [cmp (leftT x (min x.is.length y.is.length)) (leftT y (min x.is.length y.is.length))]) := by
    rw [cmp_eq, if_neg (by rw [hk, hy]; simp), if_neg (by rw [hk]; decide), if_pos hk]
  rw [this, fnz_append]
  by_cases h : fnz (List.zipWith cmp x.is y.is) = 0
  · rw [if_pos h, if_pos h, fnz, fnz]
    by_cases h' : cmp (leftT x (min x.is.length y.is.length)) (leftT y (min x.is.length y.is.length)) = 0
    · rw [if_pos h', if_pos rfl, if_pos h']
    · rw [if_neg h', if_neg h']
  · rw [if_neg h, if_neg h, if_neg h]
theorem cmp_kind {x y : T} (h : x.k ≠ y.k) : cmp x y = ordB x.k y.k := by rw [cmp_eq, if_pos h]
theorem cmp_leaf {x y : T} (h : x.k = y.k) (h5 : x.k ≠ 5) (h7 : x.k ≠ 7) : cmp x y = leafB x y := by
  rw [cmp_eq, if_neg (by simp [h]), if_neg h5, if_neg h7]
theorem cmp_len {x y : T} (h5 : x.k = 5) (h : y.k = 5) (hl : x.is.length ≠ y.is.length) : cmp x y = ordB x.is.length y.is.length := by
  rw [cmp_eq, if_neg (by simp [h, h5]), if_pos h5, if_pos hl]
theorem ordB_three (a b : Int) : ordB a b = -1 ∨ ordB a b = 0 ∨ ordB a b = 1 := by
  unfold ordB
  split
  · exact .inl rfl
  · split
    · exact .inr (.inr rfl)
    · exact .inr (.inl rfl)
theorem ordB_zero {a b : Int} : ordB a b = 0 ↔ a = b := by
  unfold ordB
  by_cases h1 : a < b
  · rw [if_pos h1]; omega
  · by_cases h2 : b < a
    · rw [if_neg h1, if_pos h2]; omega
    · rw [if_neg h1, if_neg h2]; omega
theorem ordS_three (a b : ByteArray) : ordS a b = -1 ∨ ordS a b = 0 ∨ ordS a b = 1 := by
  unfold ordS
  split
  · exact .inl rfl
  · split
    · exact .inr (.inl rfl)
    · exact .inr (.inr rfl)
theorem leafB_three (x y : T) : leafB x y = -1 ∨ leafB x y = 0 ∨ leafB x y = 1 := by
  unfold leafB
  split
  · exact ordS_three _ _
  · split
    · exact ordS_three _ _
    · exact ordB_three _ _
theorem fnz_three : ∀ (l : List Int), (∀ c ∈ l, c = -1 ∨ c = 0 ∨ c = 1) → fnz l = -1 ∨ fnz l = 0 ∨ fnz l = 1
  | [], _ => by simp [fnz]
  | c :: cs, h => by
    rw [fnz]
    split
    · exact fnz_three cs fun c hc => h c (by simp [hc])
    · exact h c (by simp)
theorem cmpF_three : ∀ (f : Nat) (x y : T), cmpF f x y = -1 ∨ cmpF f x y = 0 ∨ cmpF f x y = 1
  | 0, _, _ => by simp [cmpF]
  | f + 1, x, y => by
    unfold cmpF
    have hz : ∀ (xs ys : List T), ∀ c ∈ List.zipWith (cmpF f) xs ys, c = -1 ∨ c = 0 ∨ c = 1 := by
      intro xs
      induction xs with
      | nil => intro ys c hc; simp at hc
      | cons x xs ih =>
        intro ys c hc
        cases ys with
        | nil => simp at hc
        | cons y ys =>
          rw [List.zipWith_cons_cons] at hc
          rcases List.mem_cons.1 hc with rfl | hc
          · exact cmpF_three f x y
          · exact ih ys c hc
    split
    · exact ordB_three _ _
    · split
      · split
        · exact ordB_three _ _
        · exact fnz_three _ (hz _ _)
      · split
        · refine fnz_three _ fun c hc => ?_
          rcases List.mem_append.1 hc with hc | hc
          · exact hz _ _ c hc
          · rw [List.mem_singleton] at hc; subst hc; exact cmpF_three f _ _
        · exact leafB_three _ _
theorem cmp_three (x y : T) : cmp x y = -1 ∨ cmp x y = 0 ∨ cmp x y = 1 := cmpF_three _ x y
theorem left_ok {t : T} (n : Nat) (h : TOk t) : TOk (leftT t n) := by
  have hf := h.fit
  unfold leftT
  split
  · exact TFit.ok ⟨by simp [T.k, fits], by simp [T.n, fits], by simp [T.nm], by have := hf.is; show (t.is.drop n).length ≤ _; rw [List.length_drop]; omega, hf.rs, by simp [T.bs], by simp [T.bs], fun x hx => hf.si x (List.mem_of_mem_drop hx), hf.sr⟩
  · cases hr : t.rs with
    | nil => simp [tNil, TOk, LOk, fits]
    | cons r rs => exact hf.sr r (by rw [hr]; simp)
#print axioms cmp_eq
#print axioms cmp_three
end Go.Proofs.YtlgogflhjpcmlaaDoor
