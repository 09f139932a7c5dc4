/-
  tree.Parse: a right term's text is read as the term: plain. (wip/plain/Law1, Law2)
-/
import Derived.Test.YteaabbghnfideaaDoorPar
namespace Go.Proofs.YteaabbghnfideaaDoor
set_option linter.unusedVariables false
/-! ### numbers -/
def dv (n : Int) (l : List Int) : Int := l.foldl (fun n c => 10 * n + (c - 48)) n
def DigL (l : List Int) : Prop := ∀ c ∈ l, 48 ≤ c ∧ c ≤ 57
theorem dv_ge : ∀ (l : List Int) (n : Int), DigL l → 0 ≤ n → n ≤ dv n l
  | [], n, _, _ => Int.le_refl _
  | c :: l, n, h, h0 => by
    have hc := h c (by simp)
    have := dv_ge l (10 * n + (c - 48)) (fun x hx => h x (by simp [hx])) (by omega)
    show n ≤ dv (10 * n + (c - 48)) l
    omega
theorem digs_all {most : Int} {r : List Int} (hr : digB (headI r) = false) : ∀ (l : List Int) (n : Int), 0 ≤ n → DigL l → dv n l ≤ most → digs most n (l ++ r) = (dv n l, r)
  | [], n, h0, _, hm => by
    show digs most n r = (n, r)
    cases r with
    | nil => rw [digs]
    | cons c r =>
      have : digB c = false := hr
      rw [digs, if_neg (by rw [this]; simp)]
  | c :: l, n, h0, hd, hm => by
    have hc := hd c (by simp)
    have hd' : DigL l := fun x hx => hd x (by simp [hx])
    have hb : digB c = true := decide_eq_true hc
    have hm' : dv (10 * n + (c - 48)) l ≤ most := hm
    have hge := dv_ge l (10 * n + (c - 48)) hd' (by omega)
    rw [List.cons_append, digs, if_pos ⟨hb, by omega⟩, digs_all hr l _ (by omega) hd' hm']
    rfl
def nums (u : Nat) : List Int := (Lib.decDigits u).map fun b => (b.toNat : Int)
theorem nums_small {u : Nat} (h : u < 10) : nums u = [48 + (u : Int)] := by
  unfold nums
  rw [Lib.decDigits, dif_pos h]
  simp only [List.map_cons, List.map_nil, List.cons.injEq, and_true]
  rw [UInt8.toNat_ofNat']
  omega
theorem nums_big {u : Nat} (h : ¬ u < 10) : nums u = nums (u / 10) ++ [48 + ((u % 10 : Nat) : Int)] := by
  unfold nums
  rw [Lib.decDigits, dif_neg h, List.map_append]
  congr 1
  simp only [List.map_cons, List.map_nil, List.cons.injEq, and_true]
  rw [UInt8.toNat_ofNat']
  omega
theorem nums_dig (u : Nat) : DigL (nums u) := by
  induction u using Nat.strongRecOn with
  | _ u ih =>
    by_cases h : u < 10
    · rw [nums_small h]; intro c hc; simp at hc; omega
    · rw [nums_big h]
      intro c hc
      rcases List.mem_append.1 hc with hc | hc
      · exact ih (u / 10) (by omega) c hc
      · simp at hc; omega
theorem nums_val (u : Nat) : dv 0 (nums u) = u := by
  induction u using Nat.strongRecOn with
  | _ u ih =>
    by_cases h : u < 10
    · rw [nums_small h]; show 10 * 0 + (48 + (u : Int) - 48) = u; omega
    · rw [nums_big h]
      unfold dv
      rw [List.foldl_append]
      have := ih (u / 10) (by omega)
      unfold dv at this
      rw [this]
      show 10 * ((u / 10 : Nat) : Int) + (48 + ((u % 10 : Nat) : Int) - 48) = u
      omega
theorem nums_head (u : Nat) (h : 0 < u) : ∃ c l, nums u = c :: l ∧ c ≠ 48 ∧ 48 ≤ c ∧ c ≤ 57 := by
  induction u using Nat.strongRecOn with
  | _ u ih =>
    by_cases h1 : u < 10
    · exact ⟨_, _, nums_small h1, by omega, by omega, by omega⟩
    · obtain ⟨c, l, e, h2, h3⟩ := ih (u / 10) (by omega) (by omega)
      rw [nums_big h1, e]
      exact ⟨c, _, rfl, h2, h3⟩
theorem digitsF_nums {most : Int} {r : List Int} {u : Nat} (hr : digB (headI r) = false) (hm : (u : Int) ≤ most) : digitsF most (nums u ++ r) = some ((u : Int), r) := by
  by_cases h : u = 0
  · subst h
    rw [nums_small (by omega)]
    rfl
  · obtain ⟨c, l, e, h2, h3⟩ := nums_head u (by omega)
    have hd := nums_dig u
    have hv := nums_val u
    rw [e] at hd hv ⊢
    rw [List.cons_append, digitsF, if_neg h2, if_pos (show digB c = true from decide_eq_true h3), ← List.cons_append, digs_all hr _ _ (Int.le_refl _) hd (by rw [hv]; exact hm), hv]
theorem num_pos {n : Int} (h : 0 ≤ n) : num n = nums n.toNat := by unfold num Lib.itoa nums; rw [if_neg (by omega)]
theorem num_neg {n : Int} (h : n < 0) : num n = 45 :: nums n.natAbs := by unfold num Lib.itoa nums; rw [if_pos h]; rfl
theorem digitsF_num {most : Int} {r : List Int} {n : Int} (hr : digB (headI r) = false) (h0 : 0 ≤ n) (hm : n ≤ most) : digitsF most (num n ++ r) = some (n, r) := by
  rw [num_pos h0, digitsF_nums hr (by omega)]
  congr 2
  omega
theorem intF_num {r : List Int} {n : Int} (hr : digB (headI r) = false) (hf : fits n) : intF (num n ++ r) = some (n, r) := by
  unfold fits at hf
  by_cases h : n < 0
  · rw [num_neg h]
    obtain ⟨c, l, e, h2, h3⟩ := nums_head n.natAbs (by omega)
    have hd := digitsF_nums (most := 9223372036854775808) (u := n.natAbs) hr (by omega)
    unfold intF
    rw [List.cons_append, tk, if_pos rfl]
    simp only
    rw [if_neg (by rw [e]; exact h2), hd]
    simp only
    congr 2
    omega
  · have hd := digitsF_num (most := 9223372036854775807) (n := n) hr (by omega) (by omega)
    unfold intF
    have : tk 45 (num n ++ r) = none := by
      rw [num_pos (by omega)]
      have hdg := nums_dig n.toNat
      cases hn : nums n.toNat with
      | nil =>
        by_cases h0 : n.toNat = 0
        · rw [h0, nums_small (by omega)] at hn; cases hn
        · obtain ⟨c, l, e, _⟩ := nums_head n.toNat (by omega); rw [e] at hn; cases hn
      | cons c l =>
        rw [hn] at hdg
        have := hdg c (by simp)
        rw [List.cons_append, tk, if_neg (by omega)]
    rw [this]
    exact hd
/-! ### binaries -/
theorem head_app {a : List Int} {b : List Int} (h : a ≠ []) : headI (a ++ b) = headI a := by
  cases a with
  | nil => exact absurd rfl h
  | cons c a => rfl
theorem binL_txt {r : List Int} : ∀ (bs : List Int) (b : Int) (out : List Int), (∀ x ∈ b :: bs, 0 ≤ x ∧ x ≤ 255) → binL out (num b ++ (bs.flatMap (fun y => 44 :: num y) ++ 62 :: 62 :: r)) = some (out ++ b :: bs, r)
  | [], b, out, h => by
    have hb := h b (by simp)
    have hd : digitsF 255 (num b ++ (([] : List Int).flatMap (fun y => 44 :: num y) ++ 62 :: 62 :: r)) = some (b, 62 :: 62 :: r) := digitsF_num (r := 62 :: 62 :: r) (by rfl) hb.1 hb.2
    rw [binL]
    split
    · rename_i e; rw [hd] at e; cases e
    · rename_i b' r1 e
      rw [hd] at e
      obtain ⟨rfl, rfl⟩ : b = b' ∧ 62 :: 62 :: r = r1 := by simpa using e
      rfl
  | x :: bs, b, out, h => by
    have hb := h b (by simp)
    have hd : digitsF 255 (num b ++ ((x :: bs).flatMap (fun y => 44 :: num y) ++ 62 :: 62 :: r)) = some (b, (x :: bs).flatMap (fun y => 44 :: num y) ++ 62 :: 62 :: r) := digitsF_num (by rfl) hb.1 hb.2
    rw [binL]
    split
    · rename_i e; rw [hd] at e; cases e
    · rename_i b' r1 e
      rw [hd] at e
      obtain ⟨rfl, rfl⟩ : b = b' ∧ (x :: bs).flatMap (fun y => 44 :: num y) ++ 62 :: 62 :: r = r1 := by simpa using e
      have ht : tk 44 ((x :: bs).flatMap (fun y => 44 :: num y) ++ 62 :: 62 :: r) = some (num x ++ (bs.flatMap (fun y => 44 :: num y) ++ 62 :: 62 :: r)) := by
        rw [List.flatMap_cons, List.append_assoc, List.cons_append, tk, if_pos rfl]
      split
      · rename_i r2 e2
        rw [ht] at e2
        obtain rfl := Option.some.inj e2
        rw [binL_txt bs x (out ++ [b]) (fun y hy => h y (List.mem_cons_of_mem _ hy))]
        simp
      · rename_i e2; rw [ht] at e2; cases e2
theorem binF_txt {r : List Int} {bs : List Int} (h : ∀ x ∈ bs, 0 ≤ x ∧ x ≤ 255) : binF (60 :: (joinB bs ++ 62 :: 62 :: r)) = some (bs, r) := by
  unfold binF
  rw [tk, if_pos rfl]
  simp only
  cases bs with
  | nil => rfl
  | cons b bs =>
    have hb := h b (by simp)
    have : tk 62 (joinB (b :: bs) ++ 62 :: 62 :: r) = none := by
      rw [joinB, num_pos hb.1]
      have hdg := nums_dig b.toNat
      cases hn : nums b.toNat with
      | nil =>
        by_cases h0 : b.toNat = 0
        · rw [h0, nums_small (by omega)] at hn; cases hn
        · obtain ⟨c, l, e, _⟩ := nums_head b.toNat (by omega); rw [e] at hn; cases hn
      | cons c l =>
        rw [hn] at hdg
        have := hdg c (by simp)
        rw [List.cons_append, List.cons_append, tk, if_neg (by omega)]
    rw [this]
    simp only
    rw [joinB, List.append_assoc, binL_txt bs b [] h]
    simp
/-! ### names -/
theorem hex_back : ∀ b : Fin 16, hexI (hexD b.1) = b.1 := by decide
theorem hexI_D {b : Int} (h : 0 ≤ b ∧ b < 16) : hexI (hexD b) = b := by
  have := hex_back ⟨b.toNat, by omega⟩
  simp only at this
  rwa [Int.toNat_of_nonneg h.1] at this
theorem nameF_txt {r : List Int} : ∀ (l : List Int) (out : List Int), InB l → out.length + l.length ≤ 255 → out ++ l ≠ [] → wordL (out ++ l) = false → nameF out (l.flatMap quoB ++ 39 :: r) = some (out ++ l, r)
  | [], out, _, hl, hn, hw => by
    rw [List.flatMap_nil, List.nil_append, nameF, if_pos rfl, if_neg]
    · simp
    · rintro (q | q)
      · exact hn (by simpa using q)
      · rw [List.append_nil] at hw; rw [hw] at q; cases q
  | b :: l, out, hb, hl, hn, hw => by
    have hb0 := hb b (by simp)
    have hb' : InB l := fun x hx => hb x (by simp [hx])
    simp only [List.length_cons] at hl
    have hr := nameF_txt (r := r) l (out ++ [b]) hb' (by simp; omega) (by simp) (by simpa using hw)
    rw [List.flatMap_cons]
    have hlen : ¬ out.length = 255 := by omega
    unfold quoB
    by_cases ho : oddB b = true
    · rw [if_pos ho]
      have h1 : hexI (hexD (b / 16)) = b / 16 := hexI_D (by omega)
      have h2 : hexI (hexD (b % 16)) = b % 16 := hexI_D (by omega)
      have he : escF (120 :: hexD (b / 16) :: hexD (b % 16) :: (l.flatMap quoB ++ 39 :: r)) = some (b, l.flatMap quoB ++ 39 :: r) := by
        rw [escF, if_neg (by decide), if_pos rfl]
        rw [h1, h2]
        have ho' := of_decide_eq_true ho
        have e16 : 16 * (b / 16) + b % 16 = b := by omega
        rw [if_neg (by omega), if_neg (by rw [e16]; rintro (q | q); omega; rw [ho] at q; cases q), e16]
      rw [List.append_assoc]
      show nameF out (92 :: 120 :: hexD (b / 16) :: hexD (b % 16) :: (l.flatMap quoB ++ 39 :: r)) = _
      rw [nameF, if_neg (by decide), if_neg (by rintro (q | q); exact hlen q; revert q; decide), if_pos rfl]
      split
      · rename_i e; rw [he] at e; cases e
      · rename_i d r2 e
        rw [he] at e
        obtain ⟨rfl, rfl⟩ : b = d ∧ l.flatMap quoB ++ 39 :: r = r2 := by simpa using e
        rw [hr]; simp
    · rw [if_neg ho]
      have ho' : oddB b = false := by simpa using ho
      by_cases hq : b = 39 ∨ b = 92
      · rw [if_pos hq, List.append_assoc]
        have he : escF (b :: (l.flatMap quoB ++ 39 :: r)) = some (b, l.flatMap quoB ++ 39 :: r) := by
          unfold escF
          exact if_pos hq
        show nameF out (92 :: b :: (l.flatMap quoB ++ 39 :: r)) = _
        rw [nameF, if_neg (by decide), if_neg (by rintro (q | q); exact hlen q; revert q; decide), if_pos rfl]
        split
        · rename_i e; rw [he] at e; cases e
        · rename_i d r2 e
          rw [he] at e
          obtain ⟨rfl, rfl⟩ : b = d ∧ l.flatMap quoB ++ 39 :: r = r2 := by simpa using e
          rw [hr]; simp
      · rw [if_neg hq, List.append_assoc]
        show nameF out (b :: (l.flatMap quoB ++ 39 :: r)) = _
        rw [nameF, if_neg (fun q => hq (.inl q)), if_neg (by rintro (q | q); exact hlen q; rw [ho'] at q; cases q), if_neg (fun q => hq (.inr q)), hr]
        simp
def WordC (c : Int) : Prop := (letB c || (digB c || decide (c = 95))) = true
theorem wcnt_all {r : List Int} (hr : ¬ WordC (headI r)) : ∀ (l : List Int) (n : Nat), l.length ≤ n → (∀ c ∈ l, WordC c) → wcnt n (l ++ r) = l.length
  | [], n, _, _ => by
    rw [List.nil_append]
    cases n with
    | zero => rw [wcnt]; rfl
    | succ n =>
      cases r with
      | nil => rw [wcnt]; rfl; simp
      | cons c r => exact (by rw [wcnt]; exact if_neg hr : wcnt (n + 1) (c :: r) = 0)
  | c :: l, n, hl, h => by
    cases n with
    | zero => simp at hl
    | succ n =>
      simp only [List.length_cons] at hl
      rw [List.cons_append, wcnt, if_pos (show (letB c || (digB c || decide (c = 95))) = true from h c (by simp)), wcnt_all hr l n (by omega) (fun x hx => h x (by simp [hx]))]
      rfl
theorem wordFrom_all : ∀ (l : List Int) (i : Nat), wordFrom i l = true → ∀ c ∈ l, WordC c
  | [], _, _, c, hc => by cases hc
  | x :: l, i, h, c, hc => by
    rw [wordFrom, Bool.and_eq_true] at h
    rcases List.mem_cons.1 hc with rfl | hc
    · have := h.1
      unfold wOk at this
      unfold WordC
      simp only [Bool.or_eq_true, Bool.and_eq_true] at this ⊢
      rcases this with q | ⟨_, q⟩
      · exact .inl q
      · exact .inr q
    · exact wordFrom_all l (i + 1) h.2 c hc
theorem strOf_of (s : ByteArray) : strOfNums (byts s) = s := by
  unfold strOfNums byts
  rw [List.map_map]
  have : s.data.toList.map ((fun n : Int => UInt8.ofNat n.toNat) ∘ fun b : UInt8 => (b.toNat : Int)) = s.data.toList := by
    conv => rhs; rw [← List.map_id s.data.toList]
    refine List.map_congr_left fun b _ => ?_
    simp
  rw [this]
/-! ### a text is read as its term -/
def Sep (r : List Int) : Prop := ¬ WordC (headI r)
theorem Sep.dig {r : List Int} (h : Sep r) : digB (headI r) = false := by
  cases hd : digB (headI r) with
  | false => rfl
  | true => exact absurd (by unfold WordC; rw [hd]; simp) h
theorem sep_cons {c : Int} {r : List Int} (h : ¬ WordC c) : Sep (c :: r) := h
theorem num_head {n : Int} : ∃ c l, num n = c :: l ∧ (c = 45 ∨ digB c = true) := by
  by_cases h : n < 0
  · exact ⟨_, _, num_neg h, .inl rfl⟩
  · rw [num_pos (by omega)]
    by_cases h0 : n.toNat = 0
    · rw [h0, nums_small (by omega)]; exact ⟨_, _, rfl, .inr (by decide)⟩
    · obtain ⟨c, l, e, _, h1, h2⟩ := nums_head n.toNat (by omega)
      exact ⟨c, l, e, .inr (decide_eq_true ⟨h1, h2⟩)⟩
theorem dig_facts {c : Int} (h : digB c = true) : c ≠ 123 ∧ c ≠ 91 ∧ c ≠ 60 ∧ c ≠ 35 ∧ c ≠ 39 ∧ letB c = false := by
  have := of_decide_eq_true h
  exact ⟨by omega, by omega, by omega, by omega, by omega, decide_eq_false (by omega)⟩
theorem let_facts {c : Int} (h : letB c = true) : c ≠ 123 ∧ c ≠ 91 ∧ c ≠ 60 ∧ c ≠ 35 ∧ c ≠ 39 := by
  have := of_decide_eq_true h
  exact ⟨by omega, by omega, by omega, by omega, by omega⟩
theorem begin_int {tail : Bool} {r : List Int} {n : Int} (hr : Sep r) (hf : fits n) : beginF tail (num n ++ r) = some (mkT 1 n ByteArray.empty [], true, r) := by
  have hi := intF_num hr.dig hf
  obtain ⟨c, l, e, hc⟩ := num_head (n := n)
  rw [e] at hi ⊢
  rw [List.cons_append] at hi ⊢
  have hx : c ≠ 123 ∧ c ≠ 91 ∧ c ≠ 60 ∧ c ≠ 35 ∧ c ≠ 39 ∧ letB c = false := by
    rcases hc with rfl | hc
    · decide
    · exact dig_facts hc
  rw [beginF, if_neg hx.1, if_neg (fun q => hx.2.1 q.1), if_neg hx.2.2.1, if_neg hx.2.2.2.1, if_neg hx.2.2.2.2.1, if_neg (by rw [hx.2.2.2.2.2]; simp), if_pos hc, hi]
theorem begin_ref {tail : Bool} {r : List Int} {n c k : Int} (hr : Sep r) (hn : 0 ≤ n ∧ n < 1152921504606846976) (hc : c = 114 ∧ k = 3 ∨ c = 112 ∧ k = 4) : beginF tail (35 :: c :: (num n ++ r)) = some (mkT k n ByteArray.empty [], true, r) := by
  have hi := digitsF_num (most := 1152921504606846975) hr.dig hn.1 (by omega)
  rw [beginF, if_neg (by decide), if_neg (by rintro ⟨q, _⟩; revert q; decide), if_neg (by decide), if_pos rfl, refF, if_pos (by rcases hc with ⟨q, _⟩ | ⟨q, _⟩; exact .inl q; exact .inr q), hi]
  rcases hc with ⟨rfl, rfl⟩ | ⟨rfl, rfl⟩ <;> rfl
theorem begin_bin {tail : Bool} {r : List Int} {bs : List Int} (h : ∀ x ∈ bs, 0 ≤ x ∧ x ≤ 255) : beginF tail (60 :: 60 :: (joinB bs ++ 62 :: 62 :: r)) = some (mkT 8 0 ByteArray.empty bs, true, r) := by
  rw [beginF, if_neg (by decide), if_neg (by rintro ⟨q, _⟩; revert q; decide), if_pos rfl, binF_txt h]
theorem begin_name {tail : Bool} {r : List Int} {s : ByteArray} (hr : Sep r) (h : 1 ≤ s.size ∧ s.size ≤ 255) : beginF tail (nameT s ++ r) = some (mkT 2 0 s [], true, r) := by
  have hl := byts_len s
  have hi := byts_in s
  have hs := strOf_of s
  unfold nameT
  by_cases hw : wordB s = true
  · rw [if_pos hw]
    have hw' := hw
    unfold wordB at hw'
    rw [Bool.and_eq_true] at hw'
    cases hb : byts s with
    | nil => rw [hb] at hl; simp at hl; omega
    | cons c l =>
      rw [hb] at hw' hl hs
      have hall := wordFrom_all _ _ hw'.2
      have hc : letB c = true := by
        have := hw'.2
        rw [wordFrom, Bool.and_eq_true] at this
        have := this.1
        unfold wOk at this
        simpa using this
      have hcnt := wcnt_all hr (c :: l) 255 (by omega) hall
      have hx := let_facts hc
      rw [List.cons_append, beginF, if_neg hx.1, if_neg (fun q => hx.2.1 q.1), if_neg hx.2.2.1, if_neg hx.2.2.2.1, if_neg hx.2.2.2.2, if_pos hc, ← List.cons_append, hcnt, List.take_left, List.drop_left, hs]
  · rw [if_neg hw]
    have hn := nameF_txt (r := r) (byts s) [] hi (by simp; omega) (by intro q; rw [List.nil_append] at q; rw [q] at hl; simp at hl; omega) (by simpa [wordB, wordL] using hw)
    rw [List.nil_append] at hn
    unfold quo
    have e : [39] ++ (byts s).flatMap quoB ++ [39] ++ r = 39 :: ((byts s).flatMap quoB ++ 39 :: r) := by simp
    rw [e, beginF, if_neg (by decide), if_neg (by rintro ⟨q, _⟩; revert q; decide), if_neg (by decide), if_neg (by decide), if_pos rfl, hn]
    simp only
    rw [hs]
def addAll (o : T) (l : List T) : T := .mk o.k o.n o.nm (o.is ++ l) o.rs o.bs
theorem addAll_cons (o t : T) (l : List T) : addAll (addIt o t) l = addAll o (t :: l) := by
  unfold addAll addIt T.k T.n T.nm T.is T.rs T.bs; simp
theorem addAll_one (o t : T) : addAll o [t] = addIt o t := rfl
/-- a term's text leads to the term -/
def Reads (t : T) : Prop := ∀ (stk : List (T × Bool)) (r : List Int), Sep r → (tailOf stk = true → t.k ≠ 7 ∧ t.k ≠ 6) → runP stk none (txt t ++ r) = runP stk (some t) r
instance (c : Int) : Decidable (WordC c) := by unfold WordC; infer_instance
theorem txtM_sep {ts : List T} {c : Int} {r : List Int} (hc : ¬ WordC c) : Sep (txtM ts ++ c :: r) := by
  cases ts with
  | nil => exact hc
  | cons t ts => rw [txtM]; exact (by decide : ¬ WordC 44)
theorem items_shut {stk : List (T × Bool)} {c : Int} {r : List Int} : ∀ (ts : List T) (o t : T), (∀ x ∈ ts, Reads x) → (c = 125 ∧ o.k ≠ 7 ∨ c = 93 ∧ o.k = 7) → runP ((o, false) :: stk) (some t) (txtM ts ++ c :: r) = runP stk (some (addAll o (t :: ts))) r
  | [], o, t, _, hc => by
    rw [txtM, List.nil_append]
    refine runP_shut (o' := (addIt o t, false)) ?_
    unfold goesF
    rw [if_neg (by simp)]
    rcases hc with ⟨rfl, hk⟩ | ⟨rfl, hk⟩
    · rw [tk, if_neg (by decide)]
      simp only
      rw [if_neg hk, tk, if_pos rfl]
    · rw [tk, if_neg (by decide)]
      simp only
      rw [if_pos hk, tk, if_neg (by decide)]
      simp only
      rw [tk, if_pos rfl]
  | x :: ts, o, t, h, hc => by
    rw [txtM, List.cons_append, List.append_assoc]
    have hg : goesF (o, false) t (44 :: (txt x ++ (txtM ts ++ c :: r))) = some ((addIt o t, false), false, txt x ++ (txtM ts ++ c :: r)) := by
      unfold goesF
      rw [if_neg (by simp), tk, if_pos rfl]
    have hcw : ¬ WordC c := by rcases hc with ⟨rfl, _⟩ | ⟨rfl, _⟩ <;> decide
    rw [runP_more hg, h x (by simp) _ _ (txtM_sep hcw) (by intro q; cases q), items_shut ts (addIt o t) x (fun y hy => h y (by simp [hy])) hc, addAll_cons]
theorem items_rest {stk : List (T × Bool)} {r : List Int} : ∀ (ts : List T) (o t : T), (∀ x ∈ ts, Reads x) → o.k = 7 → runP ((o, false) :: stk) (some t) (txtM ts ++ 124 :: r) = runP ((addAll o (t :: ts), true) :: stk) none r
  | [], o, t, _, hk => by
    rw [txtM, List.nil_append]
    refine runP_more (o' := (addIt o t, true)) ?_
    unfold goesF
    rw [if_neg (by simp), tk, if_neg (by decide)]
    simp only
    rw [if_pos hk, tk, if_pos rfl]
  | x :: ts, o, t, h, hk => by
    rw [txtM, List.cons_append, List.append_assoc]
    have hg : goesF (o, false) t (44 :: (txt x ++ (txtM ts ++ 124 :: r))) = some ((addIt o t, false), false, txt x ++ (txtM ts ++ 124 :: r)) := by
      unfold goesF
      rw [if_neg (by simp), tk, if_pos rfl]
    rw [runP_more hg, h x (by simp) _ _ (txtM_sep (by decide)) (by intro q; cases q), items_rest ts (addIt o t) x (fun y hy => h y (by simp [hy])) hk, addAll_cons]
theorem byts0 {s : ByteArray} (h : s.size = 0) : s = ByteArray.empty := size0 h
theorem len0 {α : Type} {l : List α} (h : l.length = 0) : l = [] := List.eq_nil_of_length_eq_zero h
theorem name_head {s : ByteArray} (h : 1 ≤ s.size) : ∃ c l, nameT s = c :: l ∧ (c = 39 ∨ letB c = true) := by
  unfold nameT
  by_cases hw : wordB s = true
  · rw [if_pos hw]
    unfold wordB at hw
    rw [Bool.and_eq_true] at hw
    cases hb : byts s with
    | nil => have := byts_len s; rw [hb] at this; simp at this; omega
    | cons c l =>
      rw [hb, wordFrom, Bool.and_eq_true] at hw
      refine ⟨c, l, rfl, .inr ?_⟩
      have := hw.2.1
      unfold wOk at this
      simpa using this
  · rw [if_neg hw]
    exact ⟨39, (byts s).flatMap quoB ++ [39], by unfold quo; simp, .inl rfl⟩
theorem txt_head {t : T} (h : flds t = true) : ∃ c l, txt t = c :: l ∧ c ≠ 125 ∧ c ≠ 93 := by
  cases t with
  | mk k n nm is rs bs =>
    unfold flds fldB at h
    simp only [T.k, T.n, T.nm, T.is, T.rs, T.bs] at h
    rw [txt]
    by_cases q3 : k = 3
    · rw [if_pos q3]; exact ⟨35, _, rfl, by decide, by decide⟩
    by_cases q4 : k = 4
    · rw [if_neg q3, if_pos q4]; exact ⟨35, _, rfl, by decide, by decide⟩
    by_cases q1 : k = 1
    · rw [if_neg q3, if_neg q4, if_pos q1]
      obtain ⟨c, l, e, hc⟩ := num_head (n := n)
      refine ⟨c, l, e, ?_⟩
      rcases hc with rfl | hc
      · decide
      · have := of_decide_eq_true hc; omega
    by_cases q2 : k = 2
    · rw [if_neg q3, if_neg q4, if_neg q1, if_pos q2]
      subst q2
      simp at h
      obtain ⟨c, l, e, hc⟩ := name_head (s := nm) (by omega)
      refine ⟨c, l, e, ?_⟩
      rcases hc with rfl | hc
      · decide
      · have := of_decide_eq_true hc; omega
    rw [if_neg q3, if_neg q4, if_neg q1, if_neg q2]
    by_cases q5 : k = 5
    · rw [if_pos q5]; exact ⟨123, txtL is ++ [125], by simp, by decide, by decide⟩
    by_cases q6 : k = 6
    · rw [if_neg q5, if_pos q6]; exact ⟨91, _, rfl, by decide, by decide⟩
    by_cases q7 : k = 7
    · rw [if_neg q5, if_neg q6, if_pos q7]; exact ⟨91, txtL is ++ txtR rs ++ [93], by simp, by decide, by decide⟩
    by_cases q8 : k = 8
    · rw [if_neg q5, if_neg q6, if_neg q7, if_pos q8]; exact ⟨60, 60 :: joinB bs ++ [62, 62], by simp, by decide, by decide⟩
    · simp [q3, q4, q1, q2, q5, q6, q7, q8] at h
theorem tk_txt {t : T} (h : flds t = true) : (∀ Z, tk 125 (txt t ++ Z) = none) ∧ ∀ Z, tk 93 (txt t ++ Z) = none := by
  obtain ⟨c, l, e, h1, h2⟩ := txt_head h
  rw [e]
  exact ⟨fun Z => by rw [List.cons_append, tk, if_neg h1], fun Z => by rw [List.cons_append, tk, if_neg h2]⟩
set_option maxHeartbeats 1000000 in
theorem reads (t : T) : TFl t → TOk t → Reads t := by
  induction t using T.ind with
  | h k n nm is rs bs ih1 ih2 =>
    intro hfl hok stk r hr ht
    have hl := TFl.eq.1 hfl
    have hf := hok.fit
    have i1 : ∀ x ∈ is, Reads x := fun x hx => ih1 x hx (hl.2.1.mem hx) (hf.si x hx)
    have i2 : ∀ x ∈ rs, Reads x := fun x hx => ih2 x hx (hl.2.2.mem hx) (hf.sr x hx)
    have h0 := hl.1
    unfold flds fldB at h0
    simp only [T.k, T.n, T.nm, T.is, T.rs, T.bs] at h0 ht
    have hn := hf.n
    have hb := hf.b
    simp only [T.n, T.bs] at hn hb
    rw [txt]
    by_cases q3 : k = 3
    · subst q3
      simp at h0
      obtain ⟨a1, a2, rfl, ⟨rfl, rfl⟩, rfl⟩ := h0
      rw [if_pos rfl]
      exact runP_whole (begin_ref (c := 114) hr ⟨a1, a2⟩ (.inl ⟨rfl, rfl⟩))
    by_cases q4 : k = 4
    · subst q4
      simp at h0
      obtain ⟨a1, a2, rfl, ⟨rfl, rfl⟩, rfl⟩ := h0
      rw [if_neg q3, if_pos rfl]
      exact runP_whole (begin_ref (c := 112) hr ⟨a1, a2⟩ (.inr ⟨rfl, rfl⟩))
    by_cases q1 : k = 1
    · subst q1
      simp at h0
      obtain ⟨rfl, ⟨rfl, rfl⟩, rfl⟩ := h0
      rw [if_neg q3, if_neg q4, if_pos rfl]
      exact runP_whole (begin_int hr hn)
    by_cases q2 : k = 2
    · subst q2
      simp at h0
      obtain ⟨rfl, a1, a2, ⟨rfl, rfl⟩, rfl⟩ := h0
      rw [if_neg q3, if_neg q4, if_neg q1, if_pos rfl]
      exact runP_whole (begin_name hr ⟨by omega, a2⟩)
    rw [if_neg q3, if_neg q4, if_neg q1, if_neg q2]
    by_cases q5 : k = 5
    · subst q5
      simp at h0
      obtain ⟨rfl, rfl, rfl, rfl⟩ := h0
      rw [if_pos rfl]
      cases is with
      | nil =>
        refine runP_whole ?_
        show beginF (tailOf stk) (123 :: 125 :: r) = _
        rw [beginF, if_pos rfl, tk, if_pos rfl]
        rfl
      | cons x xs =>
        have ho : beginF (tailOf stk) ([123] ++ txtL (x :: xs) ++ [125] ++ r) = some (mkT 5 0 ByteArray.empty [], false, txt x ++ (txtM xs ++ 125 :: r)) := by
          have e : [123] ++ txtL (x :: xs) ++ [125] ++ r = 123 :: (txt x ++ (txtM xs ++ 125 :: r)) := by rw [txtL]; simp
          rw [e, beginF, if_pos rfl]
          have hne : tk 125 (txt x ++ (txtM xs ++ 125 :: r)) = none := (tk_txt (TFl.eq.1 (hl.2.1.mem (show x ∈ x :: xs by simp))).1).1 _
          rw [hne]
        rw [runP_open ho, i1 x (by simp) _ _ (txtM_sep (by decide)) (by intro q; cases q), items_shut xs _ x (fun y hy => i1 y (by simp [hy])) (.inl ⟨rfl, by decide⟩)]
        rfl
    by_cases q6 : k = 6
    · subst q6
      simp at h0
      obtain ⟨rfl, rfl, ⟨rfl, rfl⟩, rfl⟩ := h0
      rw [if_neg q5, if_pos rfl]
      refine runP_whole ?_
      show beginF (tailOf stk) (91 :: 93 :: r) = _
      have htl : tailOf stk = false := by
        cases hs : tailOf stk with
        | false => rfl
        | true => exact absurd rfl (ht hs).2
      rw [beginF, if_neg (by decide), if_pos ⟨rfl, htl⟩, tk, if_pos rfl]
      rfl
    by_cases q7 : k = 7
    · subst q7
      simp at h0
      obtain ⟨a1, a2, a3, rfl, rfl, rfl⟩ := h0
      rw [if_neg q5, if_neg q6, if_pos rfl]
      have htl : tailOf stk = false := by
        cases hs : tailOf stk with
        | false => rfl
        | true => exact absurd rfl (ht hs).1
      cases is with
      | nil => exact absurd rfl a1
      | cons x xs =>
        have key : ∀ Z, tk 93 (txt x ++ Z) = none := (tk_txt (TFl.eq.1 (hl.2.1.mem (show x ∈ x :: xs by simp))).1).2
        cases rs with
        | nil =>
          have e : [91] ++ txtL (x :: xs) ++ txtR [] ++ [93] ++ r = 91 :: (txt x ++ (txtM xs ++ 93 :: r)) := by rw [txtL, txtR]; simp
          have ho : beginF (tailOf stk) (91 :: (txt x ++ (txtM xs ++ 93 :: r))) = some (mkT 7 0 ByteArray.empty [], false, txt x ++ (txtM xs ++ 93 :: r)) := by
            rw [beginF, if_neg (by decide), if_pos ⟨rfl, htl⟩, key]
          rw [e, runP_open ho, i1 x (by simp) _ _ (txtM_sep (by decide)) (by intro q; cases q), items_shut xs _ x (fun y hy => i1 y (by simp [hy])) (.inr ⟨rfl, rfl⟩)]
          rfl
        | cons y ys =>
          obtain rfl : ys = [] := by cases ys with | nil => rfl | cons z zs => simp at a2
          have e : [91] ++ txtL (x :: xs) ++ txtR [y] ++ [93] ++ r = 91 :: (txt x ++ (txtM xs ++ 124 :: (txt y ++ 93 :: r))) := by rw [txtL, txtR]; simp
          have ho : beginF (tailOf stk) (91 :: (txt x ++ (txtM xs ++ 124 :: (txt y ++ 93 :: r)))) = some (mkT 7 0 ByteArray.empty [], false, txt x ++ (txtM xs ++ 124 :: (txt y ++ 93 :: r))) := by
            rw [beginF, if_neg (by decide), if_pos ⟨rfl, htl⟩, key]
          have hy : y.k ≠ 7 ∧ y.k ≠ 6 := by
            rcases a3 with q | q
            · exact absurd rfl q
            · exact q
          rw [e, runP_open ho, i1 x (by simp) _ _ (txtM_sep (by decide)) (by intro q; cases q), items_rest xs _ x (fun y hy => i1 y (by simp [hy])) rfl,
            i2 y (by simp) _ _ (sep_cons (by decide)) (fun _ => hy)]
          refine runP_shut (o' := (_, true)) ?_
          unfold goesF
          rw [if_pos rfl, tk, if_pos rfl]
          rfl
    by_cases q8 : k = 8
    · subst q8
      simp at h0
      obtain ⟨rfl, rfl, rfl, rfl⟩ := h0
      rw [if_neg q5, if_neg q6, if_neg q7, if_pos rfl]
      have e : [60, 60] ++ joinB bs ++ [62, 62] ++ r = 60 :: 60 :: (joinB bs ++ 62 :: 62 :: r) := by simp
      rw [e]
      exact runP_whole (begin_bin hb)
    · exfalso
      simp [q3, q4, q1, q2, q5, q6, q7, q8] at h0
theorem reads_all {t : T} (h : TFl t) (hok : TOk t) : runP [] none (txt t) = some (t, []) := by
  have := reads t h hok [] [] (by show ¬ WordC 0; decide) (by intro q; cases q)
  rw [List.append_nil] at this
  rw [this, runP_end]
#print axioms reads_all
end Go.Proofs.YteaabbghnfideaaDoor
