/-
  tree.Parse: what is read is told as just that text: plain. (wip/plain/Law3, Law4)
-/
import Derived.Test.YteaabbghnfideaaDoorParA
namespace Go.Proofs.YteaabbghnfideaaDoor
set_option linter.unusedVariables false
/-! ### what is read is told as just that text -/
theorem nums_snoc (u d : Nat) (h : 0 < u) (hd : d < 10) : nums (10 * u + d) = nums u ++ [48 + (d : Int)] := by
  rw [nums_big (by omega)]
  have h1 : (10 * u + d) / 10 = u := by omega
  have h2 : (10 * u + d) % 10 = d := by omega
  rw [h1, h2]
theorem digs_back {most : Int} : ∀ (r : List Int) (u : Nat) (v : Int) (r' : List Int), 0 < u → (u : Int) ≤ most → digs most u r = (v, r') → ∃ n : Nat, v = n ∧ (n : Int) ≤ most ∧ nums u ++ r = nums n ++ r'
  | [], u, v, r', _, hm, h => by
    rw [digs] at h
    obtain ⟨rfl, rfl⟩ := Prod.mk.inj h
    exact ⟨u, rfl, hm, rfl⟩
  | c :: r, u, v, r', hu, hm, h => by
    rw [digs] at h
    split at h
    · rename_i hc
      have hd := of_decide_eq_true hc.1
      have hlt := hc.2
      obtain ⟨d, rfl⟩ : ∃ d : Nat, c = 48 + (d : Int) := ⟨(c - 48).toNat, by omega⟩
      have e : (10 * (u : Int) + (48 + (d : Int) - 48)) = ((10 * u + d : Nat) : Int) := by omega
      rw [e] at h
      have hm2 : ((10 * u + d : Nat) : Int) ≤ most := by omega
      obtain ⟨n, h1, h2, h3⟩ := digs_back r (10 * u + d) v r' (by omega) hm2 h
      refine ⟨n, h1, h2, ?_⟩
      rw [← h3, nums_snoc u d hu (by omega)]
      simp
    · obtain ⟨rfl, rfl⟩ := Prod.mk.inj h
      exact ⟨u, rfl, hm, rfl⟩
theorem digitsF_back {most : Int} {r : List Int} {v : Int} {r' : List Int} (hm : 9 ≤ most) (h : digitsF most r = some (v, r')) : 0 ≤ v ∧ v ≤ most ∧ r = num v ++ r' := by
  cases r with
  | nil => simp [digitsF] at h
  | cons c r =>
    rw [digitsF] at h
    split at h
    · rename_i hc
      simp at h
      obtain ⟨rfl, rfl⟩ := h
      refine ⟨Int.le_refl _, by omega, ?_⟩
      rw [num_pos (Int.le_refl _), show (0 : Int).toNat = 0 from rfl, nums_small (by omega), hc]
      rfl
    · rename_i hc
      split at h
      · rename_i hd
        have hd' := of_decide_eq_true hd
        simp only [Option.some.injEq] at h
        obtain ⟨d, rfl⟩ : ∃ d : Nat, c = 48 + (d : Int) := ⟨(c - 48).toNat, by omega⟩
        rw [digs, if_pos ⟨hd, by omega⟩] at h
        have e : (10 * 0 + (48 + (d : Int) - 48)) = ((d : Nat) : Int) := by omega
        rw [e] at h
        obtain ⟨n, rfl, h2, h3⟩ := digs_back r d v r' (by omega) (by omega) h
        refine ⟨by omega, h2, ?_⟩
        rw [num_pos (by omega), Int.toNat_natCast, ← h3, nums_small (by omega)]
        rfl
      · simp at h
theorem tk_back {b : Int} {r r' : List Int} (h : tk b r = some r') : r = b :: r' := by
  cases r with
  | nil => simp [tk] at h
  | cons c r =>
    simp only [tk] at h
    split at h
    · rename_i e; injection h with h; rw [h, e]
    · cases h
theorem intF_back {r : List Int} {v : Int} {r' : List Int} (h : intF r = some (v, r')) : fits v ∧ r = num v ++ r' := by
  unfold intF at h
  split at h
  · obtain ⟨h1, h2, h3⟩ := digitsF_back (by decide) h
    exact ⟨by unfold fits; omega, h3⟩
  · rename_i r1 h1
    have e1 := tk_back h1
    split at h
    · simp at h
    · rename_i h48
      split at h
      · rename_i n r2 hd
        obtain ⟨a1, a2, a3⟩ := digitsF_back (by decide) hd
        simp at h
        obtain ⟨rfl, rfl⟩ := h
        have hn0 : n ≠ 0 := by
          rintro rfl
          rw [num_pos (Int.le_refl _), show (0 : Int).toNat = 0 from rfl, nums_small (by omega)] at a3
          exact h48 (by rw [a3]; rfl)
        refine ⟨by unfold fits; omega, ?_⟩
        have hn1 : 0 < n := by omega
        have e : (-n).natAbs = n.toNat := by omega
        rw [e1, a3, num_neg (n := -n) (by omega), num_pos a1, e]
        rfl
      · simp at h
theorem refF_back {r : List Int} {t : T} {r' : List Int} (h : refF r = some (t, r')) : ∃ k n : Int, (k = 3 ∨ k = 4) ∧ 0 ≤ n ∧ n < 1152921504606846976 ∧ t = mkT k n ByteArray.empty [] ∧ 35 :: r = txt t ++ r' := by
  unfold refF at h
  split at h
  · simp at h
  · rename_i c r
    split at h
    · rename_i hc
      split at h
      · rename_i n r2 hd
        obtain ⟨a1, a2, a3⟩ := digitsF_back (by decide) hd
        simp at h
        obtain ⟨rfl, rfl⟩ := h
        by_cases q : c = 114
        · subst q
          refine ⟨3, n, .inl rfl, a1, by omega, by rw [if_pos rfl], ?_⟩
          rw [if_pos rfl, mkT, txt, if_pos rfl, a3]; rfl
        · rw [if_neg q]
          obtain rfl : c = 112 := by omega
          refine ⟨4, n, .inr rfl, a1, by omega, rfl, ?_⟩
          rw [mkT, txt, if_neg (by decide), if_pos rfl, a3]; rfl
      · simp at h
    · simp at h
theorem binL_back : ∀ (k : Nat) (r : List Int) (out bs r' : List Int), r.length ≤ k → (∀ x ∈ out, 0 ≤ x ∧ x ≤ 255) → binL out r = some (bs, r') →
    ∃ b l, bs = out ++ b :: l ∧ (∀ x ∈ bs, 0 ≤ x ∧ x ≤ 255) ∧ r = num b ++ (l.flatMap (fun y => 44 :: num y) ++ 62 :: 62 :: r') := by
  intro k
  induction k with
  | zero =>
    intro r out bs r' hk _ h
    cases r with
    | nil => unfold binL at h; simp [digitsF] at h
    | cons c r => simp at hk
  | succ k ih =>
    intro r out bs r' hk ho h
    unfold binL at h
    split at h
    · simp at h
    · rename_i b r1 hd
      obtain ⟨a1, a2, a3⟩ := digitsF_back (by decide) hd
      have hlt := digitsF_lt (by decide) hd
      have ho' : ∀ x ∈ out ++ [b], 0 ≤ x ∧ x ≤ 255 := by
        intro x hx
        rcases List.mem_append.1 hx with hx | hx
        · exact ho x hx
        · simp at hx; subst hx; exact ⟨a1, a2⟩
      split at h
      · rename_i r2 ht
        have h2 := tk_lt ht
        obtain ⟨b2, l, e1, e2, e3⟩ := ih r2 _ _ _ (by omega) ho' h
        refine ⟨b, b2 :: l, by rw [e1]; simp, e2, ?_⟩
        rw [a3, tk_back ht, e3]
        simp
      · split at h
        · simp at h
        · rename_i r2 ht
          split at h
          · simp at h
          · rename_i r3 ht2
            simp at h
            obtain ⟨rfl, rfl⟩ := h
            refine ⟨b, [], rfl, ho', ?_⟩
            rw [a3, tk_back ht, tk_back ht2]
            rfl
theorem binF_back {r bs r' : List Int} (h : binF r = some (bs, r')) : (∀ x ∈ bs, 0 ≤ x ∧ x ≤ 255) ∧ r = 60 :: (joinB bs ++ 62 :: 62 :: r') := by
  unfold binF at h
  split at h
  · simp at h
  · rename_i r1 h1
    rw [tk_back h1]
    split at h
    · rename_i r2 h2
      split at h
      · rename_i r3 h3
        simp at h
        obtain ⟨rfl, rfl⟩ := h
        rw [tk_back h2, tk_back h3]
        exact ⟨by simp, rfl⟩
      · simp at h
    · obtain ⟨b, l, e1, e2, e3⟩ := binL_back _ _ _ _ _ (Nat.le_refl _) (by simp) h
      refine ⟨e2, ?_⟩
      rw [List.nil_append] at e1
      subst e1
      rw [joinB, e3]
      simp
theorem hexD_I {c : Int} (h : ¬ hexI c < 0) : hexD (hexI c) = c ∧ 0 ≤ hexI c ∧ hexI c < 16 := by
  unfold hexI at h ⊢
  split
  · rename_i q; unfold hexD; rw [if_pos (by omega)]; omega
  · split
    · rename_i q; unfold hexD; rw [if_neg (by omega)]; omega
    · rename_i q1 q2; rw [if_neg q1, if_neg q2] at h; omega
theorem escF_back {r : List Int} {d : Int} {r' : List Int} (h : escF r = some (d, r')) : 0 ≤ d ∧ d ≤ 255 ∧ 92 :: r = quoB d ++ r' := by
  unfold escF at h
  split at h
  · simp at h
  · rename_i c r
    split at h
    · rename_i hc
      simp at h
      obtain ⟨rfl, rfl⟩ := h
      refine ⟨by omega, by omega, ?_⟩
      unfold quoB
      rw [if_neg (by rcases hc with rfl | rfl <;> decide), if_pos hc]
      rfl
    · split at h
      · rename_i hc
        subst hc
        split at h
        · rename_i hh ll r1
          split at h
          · simp at h
          · rename_i h1
            split at h
            · simp at h
            · rename_i h2
              simp at h
              obtain ⟨rfl, rfl⟩ := h
              obtain ⟨a1, a2, a3⟩ := hexD_I (c := hh) (by omega)
              obtain ⟨b1, b2, b3⟩ := hexD_I (c := ll) (by omega)
              have ho : oddB (16 * hexI hh + hexI ll) = true := by
                cases hq : oddB (16 * hexI hh + hexI ll) with
                | true => rfl
                | false => exact absurd (.inr hq) h2
              refine ⟨by omega, by omega, ?_⟩
              unfold quoB
              rw [if_pos ho, show (16 * hexI hh + hexI ll) / 16 = hexI hh by omega, show (16 * hexI hh + hexI ll) % 16 = hexI ll by omega, a1, b1]
              rfl
        · simp at h
      · simp at h
theorem nameF_back : ∀ (k : Nat) (r : List Int) (out l r' : List Int), r.length ≤ k → InB r → InB out → out.length ≤ 255 → nameF out r = some (l, r') →
    ∃ m, l = out ++ m ∧ l ≠ [] ∧ l.length ≤ 255 ∧ wordL l = false ∧ InB l ∧ r = m.flatMap quoB ++ 39 :: r' := by
  intro k
  induction k with
  | zero =>
    intro r out l r' hk _ _ _ h
    cases r with
    | nil => unfold nameF at h; simp at h
    | cons c r => simp at hk
  | succ k ih =>
    intro r out l r' hk hr ho hl h
    unfold nameF at h
    split at h
    · simp at h
    · rename_i c r1
      simp only [List.length_cons] at hk
      have hc0 := hr c (by simp)
      have hr1 : InB r1 := fun x hx => hr x (by simp [hx])
      have snoc : ∀ d : Int, 0 ≤ d → d ≤ 255 → InB (out ++ [d]) := by
        intro d h0 h1 x hx
        rcases List.mem_append.1 hx with hx | hx
        · exact ho x hx
        · simp at hx; subst hx; exact ⟨h0, h1⟩
      split at h
      · rename_i hc
        subst hc
        split at h
        · simp at h
        · rename_i hw
          simp at h
          obtain ⟨rfl, rfl⟩ := h
          exact ⟨[], by simp, fun q => hw (.inl q), hl, by cases hq : wordL out with | false => rfl | true => exact absurd (.inr hq) hw, ho, rfl⟩
      · rename_i hc39
        split at h
        · simp at h
        · rename_i hq
          have hlen : out.length < 255 := by
            have : ¬ out.length = 255 := fun q => hq (.inl q)
            omega
          split at h
          · rename_i hc
            split at h
            · simp at h
            · rename_i d r2 he
              have hlt := escF_lt he
              obtain ⟨d0, d1, e⟩ := escF_back he
              have hr2 : InB r2 := by
                intro x hx
                have : x ∈ 92 :: r1 := by rw [e]; simp [hx]
                rcases List.mem_cons.1 this with rfl | q
                · omega
                · exact hr1 x q
              obtain ⟨m, e1, e2, e3, e4, e5, e6⟩ := ih r2 _ _ _ (by omega) hr2 (snoc d d0 d1) (by simp; omega) h
              refine ⟨d :: m, by rw [e1]; simp, e2, e3, e4, e5, ?_⟩
              rw [hc, e, e6]
              simp
          · rename_i hc92
            obtain ⟨m, e1, e2, e3, e4, e5, e6⟩ := ih r1 _ _ _ (by omega) hr1 (snoc c hc0.1 hc0.2) (by simp; omega) h
            refine ⟨c :: m, by rw [e1]; simp, e2, e3, e4, e5, ?_⟩
            have hqb : quoB c = [c] := by
              unfold quoB
              rw [if_neg (fun q => hq (.inr q)), if_neg (by rintro (q | q); exact hc39 q; exact hc92 q)]
            rw [List.flatMap_cons, hqb, e6]
            rfl
theorem wcnt_word : ∀ (n : Nat) (r : List Int), ∀ c ∈ r.take (wcnt n r), WordC c
  | 0, r, c, h => by rw [wcnt] at h; simp at h
  | n + 1, [], c, h => by simp at h
  | n + 1, x :: r, c, h => by
    rw [wcnt] at h
    split at h
    · rename_i hx
      rw [List.take_succ_cons] at h
      rcases List.mem_cons.1 h with rfl | h
      · exact hx
      · exact wcnt_word n r c h
    · simp at h
theorem wcnt_le : ∀ (n : Nat) (r : List Int), wcnt n r ≤ n
  | 0, r => by rw [wcnt]; exact Nat.le_refl _
  | n + 1, [] => by rw [wcnt]; omega; simp
  | n + 1, x :: r => by rw [wcnt]; split; have := wcnt_le n r; omega; omega
theorem wordFrom_of {l : List Int} (i : Nat) (hi : 0 < i) (h : ∀ c ∈ l, WordC c) : wordFrom i l = true := by
  induction l generalizing i with
  | nil => rfl
  | cons c l ih =>
    rw [wordFrom, ih (i + 1) (by omega) (fun x hx => h x (by simp [hx])), Bool.and_true]
    have := h c (by simp)
    unfold WordC at this
    unfold wOk
    rw [show decide (i ≠ 0) = true from decide_eq_true (by omega), Bool.true_and]
    exact this
theorem byts_strOf {l : List Int} (h : InB l) : byts (strOfNums l) = l := strOf_byts l h
theorem size_strOf (l : List Int) : (strOfNums l).size = l.length := by simp [strOfNums, ByteArray.size]
/-- a leaf that is whole, and what begins -/
theorem begin_back {tail : Bool} {r : List Int} {t : T} {r' : List Int} (hin : InB r) (h : beginF tail r = some (t, true, r')) :
    r = txt t ++ r' ∧ TFl t ∧ fits t.n ∧ (tail = true → t.k ≠ 6 ∧ t.k ≠ 7) ∧ t.is = [] ∧ t.rs = [] ∧ (∀ b ∈ t.bs, 0 ≤ b ∧ b ≤ 255) := by
  have hfl : ∀ {k n : Int} {nm : ByteArray} {bs : List Int}, flds (mkT k n nm bs) = true → TFl (mkT k n nm bs) := fun h => TFl.eq.2 ⟨h, by simp [mkT, T.is, LFl], by simp [mkT, T.rs, LFl]⟩
  unfold beginF at h
  split at h
  · simp at h
  rename_i c r
  split at h
  · rename_i hc
    subst hc
    split at h
    · rename_i r2 h2
      simp at h
      obtain ⟨rfl, rfl⟩ := h
      rw [tk_back h2]
      exact ⟨rfl, hfl (by decide), (by decide : (-9223372036854775808 : Int) ≤ 0 ∧ (0 : Int) ≤ 9223372036854775807), fun _ => by decide, rfl, rfl, by simp [mkT, T.bs]⟩
    · simp at h
  split at h
  · rename_i hc
    obtain ⟨rfl, ht⟩ := hc
    split at h
    · rename_i r2 h2
      simp at h
      obtain ⟨rfl, rfl⟩ := h
      rw [tk_back h2]
      exact ⟨rfl, hfl (by decide), (by decide : (-9223372036854775808 : Int) ≤ 0 ∧ (0 : Int) ≤ 9223372036854775807), (fun q => by rw [ht] at q; cases q), rfl, rfl, by simp [mkT, T.bs]⟩
    · simp at h
  split at h
  · rename_i hc
    subst hc
    split at h
    · rename_i bs r2 h2
      simp at h
      obtain ⟨rfl, rfl⟩ := h
      obtain ⟨a1, a2⟩ := binF_back h2
      refine ⟨?_, hfl (by simp [flds, fldB, mkT, T.k, T.n, T.nm, T.is, T.rs]), (by decide : (-9223372036854775808 : Int) ≤ 0 ∧ (0 : Int) ≤ 9223372036854775807), fun _ => by show (8 : Int) ≠ 6 ∧ (8 : Int) ≠ 7; decide, rfl, rfl, a1⟩
      rw [a2, mkT, txt]
      simp
    · simp at h
  split at h
  · rename_i hc
    subst hc
    split at h
    · rename_i t2 r2 h2
      simp at h
      obtain ⟨rfl, rfl⟩ := h
      obtain ⟨k, n, hk, h0, h1, rfl, e⟩ := refF_back h2
      refine ⟨e, hfl ?_, (by show fits n; unfold fits; omega), fun _ => by show k ≠ 6 ∧ k ≠ 7; omega, rfl, rfl, by simp [mkT, T.bs]⟩
      unfold flds fldB
      rw [if_pos (by exact hk)]
      simp only [mkT, T.n, T.nm, T.is, T.rs, T.bs]
      exact decide_eq_true ⟨h0, h1, by decide, by decide⟩
    · simp at h
  split at h
  · rename_i hc
    subst hc
    split at h
    · rename_i l r2 h2
      simp at h
      obtain ⟨rfl, rfl⟩ := h
      obtain ⟨m, e1, e2, e3, e4, e5, e6⟩ := nameF_back _ _ _ _ _ (Nat.le_refl _) (fun x hx => hin x (by simp [hx])) (by intro x hx; cases hx) (by simp) h2
      rw [List.nil_append] at e1
      subst e1
      have hl : l.length ≠ 0 := fun q => e2 (List.eq_nil_of_length_eq_zero q)
      refine ⟨?_, hfl ?_, (by decide : (-9223372036854775808 : Int) ≤ 0 ∧ (0 : Int) ≤ 9223372036854775807), fun _ => by show (2 : Int) ≠ 6 ∧ (2 : Int) ≠ 7; decide, rfl, rfl, by simp [mkT, T.bs]⟩
      · rw [mkT, txt, if_neg (by decide), if_neg (by decide), if_neg (by decide), if_pos rfl]
        unfold nameT quo
        rw [if_neg (by unfold wordB; rw [byts_strOf e5]; unfold wordL at e4; rw [e4]; simp), byts_strOf e5, e6]
        simp
      · unfold flds fldB
        simp only [mkT, T.k, T.n, T.nm, T.is, T.rs, T.bs, size_strOf]
        rw [if_neg (by decide), if_neg (by decide), if_pos trivial]
        exact decide_eq_true ⟨trivial, by omega, e3, rfl⟩
    · simp at h
  split at h
  · rename_i hc
    simp at h
    obtain ⟨rfl, rfl⟩ := h
    have hw := wcnt_word 255 (c :: r)
    have hle := wcnt_le 255 (c :: r)
    have hpos : wcnt 255 (c :: r) = wcnt 254 r + 1 := by rw [wcnt, if_pos (by simp [hc])]
    have hI : InB ((c :: r).take (wcnt 255 (c :: r))) := fun x hx => hin x (List.mem_of_mem_take hx)
    have htk : (c :: r).take (wcnt 255 (c :: r)) = c :: r.take (wcnt 254 r) := by rw [hpos, List.take_succ_cons]
    have hlen : ((c :: r).take (wcnt 255 (c :: r))).length ≤ 255 := by rw [List.length_take]; omega
    have hwl : wordB (strOfNums ((c :: r).take (wcnt 255 (c :: r)))) = true := by
      unfold wordB
      rw [byts_strOf hI, htk, wordFrom]
      rw [htk] at hw
      rw [wordFrom_of 1 (by omega) (fun x hx => hw x (by simp [hx]))]
      unfold wOk
      rw [hc]
      rfl
    refine ⟨?_, hfl ?_, (by decide : (-9223372036854775808 : Int) ≤ 0 ∧ (0 : Int) ≤ 9223372036854775807), fun _ => by show (2 : Int) ≠ 6 ∧ (2 : Int) ≠ 7; decide, rfl, rfl, by simp [mkT, T.bs]⟩
    · rw [mkT, txt, if_neg (by decide), if_neg (by decide), if_neg (by decide), if_pos rfl]
      unfold nameT
      rw [if_pos hwl, byts_strOf hI, List.take_append_drop]
    · unfold flds fldB
      simp only [mkT, T.k, T.n, T.nm, T.is, T.rs, T.bs, size_strOf]
      rw [if_neg (by decide), if_neg (by decide), if_pos trivial]
      exact decide_eq_true ⟨trivial, by rw [htk]; simp, hlen, rfl⟩
  split at h
  · split at h
    · rename_i n r2 h2
      simp at h
      obtain ⟨rfl, rfl⟩ := h
      obtain ⟨a1, a2⟩ := intF_back h2
      refine ⟨?_, hfl (by simp [flds, fldB, mkT, T.k, T.nm, T.is, T.rs, T.bs]), a1, fun _ => by show (1 : Int) ≠ 6 ∧ (1 : Int) ≠ 7; decide, rfl, rfl, by simp [mkT, T.bs]⟩
      rw [a2, mkT, txt, if_neg (by decide), if_neg (by decide), if_pos rfl]
    · simp at h
  · simp at h
theorem begin_open {tail : Bool} {r : List Int} {t : T} {r' : List Int} (h : beginF tail r = some (t, false, r')) : (t = mkT 5 0 ByteArray.empty [] ∧ r = 123 :: r') ∨ (t = mkT 7 0 ByteArray.empty [] ∧ r = 91 :: r' ∧ tail = false) := by
  unfold beginF at h
  split at h
  · simp at h
  rename_i c r
  split at h
  · rename_i hc
    subst hc
    split at h
    · simp at h
    · simp at h; obtain ⟨rfl, rfl⟩ := h; exact .inl ⟨rfl, rfl⟩
  split at h
  · rename_i hc
    obtain ⟨rfl, ht⟩ := hc
    split at h
    · simp at h
    · simp at h; obtain ⟨rfl, rfl⟩ := h; exact .inr ⟨rfl, rfl, ht⟩
  split at h
  · split at h <;> simp at h
  split at h
  · split at h <;> simp at h
  split at h
  · split at h <;> simp at h
  split at h
  · simp at h
  split at h
  · split at h <;> simp at h
  · simp at h
mutual
/-- numbers that fit, bytes that are, in all parts -/
def NOk : T → Prop
  | .mk k n nm is rs bs => fits n ∧ (∀ b ∈ bs, 0 ≤ b ∧ b ≤ 255) ∧ LNOk is ∧ LNOk rs
def LNOk : List T → Prop
  | [] => True
  | t :: ts => NOk t ∧ LNOk ts
end
theorem NOk.eq {t : T} : NOk t ↔ fits t.n ∧ (∀ b ∈ t.bs, 0 ≤ b ∧ b ≤ 255) ∧ LNOk t.is ∧ LNOk t.rs := by
  cases t with
  | mk k n nm is rs bs => unfold NOk; exact Iff.rfl
theorem LNOk.snoc : ∀ {ts : List T} {t : T}, LNOk ts → NOk t → LNOk (ts ++ [t])
  | [], t, _, h => by simp [LNOk, h]
  | x :: ts, t, q, h => by
    rw [List.cons_append]
    unfold LNOk at q ⊢
    exact ⟨q.1, q.2.snoc h⟩
theorem LNOk.mem : ∀ {ts : List T} {t : T}, LNOk ts → t ∈ ts → NOk t
  | [], _, _, h => by cases h
  | x :: ts, t, q, h => by
    unfold LNOk at q
    rcases List.mem_cons.1 h with rfl | h
    · exact q.1
    · exact LNOk.mem q.2 h
theorem LFl.snoc : ∀ {ts : List T} {t : T}, LFl ts → TFl t → LFl (ts ++ [t])
  | [], t, _, h => by simp [LFl, h]
  | x :: ts, t, q, h => by
    rw [List.cons_append]
    unfold LFl at q ⊢
    exact ⟨q.1, q.2.snoc h⟩
/-- the text of what is open -/
def opTxt (o : T × Bool) : List Int := (if o.1.k = 7 then [91] else [123]) ++ (if o.2 = true then txtL o.1.is ++ [124] else o.1.is.flatMap fun x => txt x ++ [44])
def stkTxt : List (T × Bool) → List Int
  | [] => []
  | o :: stk => stkTxt stk ++ opTxt o
theorem txtL_comma : ∀ (ts : List T) (x : T), txtL (ts ++ [x]) = (ts.flatMap fun y => txt y ++ [44]) ++ txt x
  | [], x => by simp [txtL, txtM]
  | t :: ts, x => by
    have key : ∀ (us : List T) (y : T), txtM (us ++ [y]) = 44 :: ((us.flatMap fun z => txt z ++ [44]) ++ txt y) := by
      intro us
      induction us with
      | nil => intro y; simp [txtM]
      | cons u us ih => intro y; rw [List.cons_append, txtM, ih y]; simp
    rw [List.cons_append, txtL, key]
    simp
structure OkO (o : T × Bool) : Prop where
  k : o.1.k = 5 ∨ o.1.k = 7
  n : o.1.n = 0
  nm : o.1.nm = ByteArray.empty
  rs : o.1.rs = []
  bs : o.1.bs = []
  t : o.2 = true → o.1.k = 7 ∧ o.1.is ≠ []
  fl : LFl o.1.is
  ok : LNOk o.1.is
structure OkC (stk : List (T × Bool)) (c : T) : Prop where
  fl : TFl c
  ok : NOk c
  k : tailOf stk = true → c.k ≠ 6 ∧ c.k ≠ 7
def curTxt : Option T → List Int
  | none => []
  | some t => txt t
theorem T.eta (t : T) : T.mk t.k t.n t.nm t.is t.rs t.bs = t := by cases t; rfl
theorem txt5 {t : T} (h : t.k = 5) : txt t = [123] ++ txtL t.is ++ [125] := by
  cases t with
  | mk k n nm is rs bs =>
    simp only [T.k] at h
    subst h
    rw [txt]; rfl
theorem txt7 {t : T} (h : t.k = 7) : txt t = [91] ++ txtL t.is ++ txtR t.rs ++ [93] := by
  cases t with
  | mk k n nm is rs bs =>
    simp only [T.k] at h
    subst h
    rw [txt]; rfl
theorem goes_back {o o' : T × Bool} {e : Bool} {stk : List (T × Bool)} {t : T} {r r' : List Int} (ho : OkO o) (hc : OkC (o :: stk) t) (h : goesF o t r = some (o', e, r')) :
    (e = false → opTxt o ++ txt t ++ r = opTxt o' ++ r' ∧ OkO o') ∧ (e = true → opTxt o ++ txt t ++ r = txt o'.1 ++ r' ∧ TFl o'.1 ∧ NOk o'.1 ∧ (o'.1.k = 5 ∨ o'.1.k = 7 ∧ o.1.k = 7)) := by
  have hadd : OkO (addIt o.1 t, false) := ⟨ho.k, ho.n, ho.nm, ho.rs, ho.bs, (fun q => by cases q), ho.fl.snoc hc.fl, ho.ok.snoc hc.ok⟩
  have hf0 : fits 0 := by unfold fits; decide
  unfold goesF at h
  split at h
  · rename_i ht
    split at h
    · rename_i r2 h2
      simp at h
      obtain ⟨rfl, rfl, rfl⟩ := h
      refine ⟨(fun q => by cases q), fun _ => ?_⟩
      obtain ⟨k7, hne⟩ := ho.t ht
      have hck := hc.k (by unfold tailOf; exact ht)
      have hflds : flds (setRs o.1 t) = true := by
        unfold flds fldB
        have e1 : (setRs o.1 t).k = 7 := k7
        have e2 : restK (setRs o.1 t) = t.k := rfl
        rw [e1, e2, if_neg (by decide), if_neg (by decide), if_neg (by decide), if_neg (by decide), if_neg (by decide), if_pos rfl]
        refine decide_eq_true ⟨?_, Nat.le_refl 1, fun _ => ⟨hck.2, hck.1⟩, ho.n, by show o.1.nm.size = 0; rw [ho.nm]; rfl, by show o.1.bs.length = 0; rw [ho.bs]; rfl⟩
        show o.1.is.length ≠ 0
        intro q
        exact hne (List.eq_nil_of_length_eq_zero q)
      refine ⟨?_, TFl.eq.2 ⟨hflds, ho.fl, by show LFl [t]; simp [LFl, hc.fl]⟩, NOk.eq.2 ⟨by show fits o.1.n; rw [ho.n]; exact hf0, by show ∀ b ∈ o.1.bs, _; rw [ho.bs]; simp, ho.ok, by show LNOk [t]; simp [LNOk, hc.ok]⟩, .inr ⟨k7, k7⟩⟩
      rw [txt7 (t := setRs o.1 t) k7]
      unfold opTxt
      rw [if_pos k7, if_pos ht, tk_back h2]
      show _ = [91] ++ txtL o.1.is ++ txtR [t] ++ [93] ++ r2
      rw [txtR]
      simp
    · simp at h
  · rename_i ht
    have ht' : o.2 = false := by simpa using ht
    have e1 : opTxt o = (if o.1.k = 7 then [91] else [123]) ++ o.1.is.flatMap fun x => txt x ++ [44] := by unfold opTxt; rw [if_neg ht]
    have eA : (addIt o.1 t).is = o.1.is ++ [t] := rfl
    have eK : (addIt o.1 t).k = o.1.k := rfl
    have hlen : (o.1.is ++ [t]).length ≠ 0 := by simp
    split at h
    · rename_i r2 h2
      simp at h
      obtain ⟨rfl, rfl, rfl⟩ := h
      refine ⟨fun _ => ⟨?_, hadd⟩, (fun q => by cases q)⟩
      have e2 : opTxt (addIt o.1 t, false) = (if o.1.k = 7 then [91] else [123]) ++ ((o.1.is ++ [t]).flatMap fun x => txt x ++ [44]) := rfl
      rw [e1, e2, tk_back h2, List.flatMap_append]
      simp
    · split at h
      · rename_i k7
        have hfl7 : ∀ b : Bool, flds (addIt o.1 t) = true := by
          intro _
          unfold flds fldB
          rw [eK, k7, if_neg (by decide), if_neg (by decide), if_neg (by decide), if_neg (by decide), if_neg (by decide), if_pos rfl]
          have er : (addIt o.1 t).rs.length = 0 := by show o.1.rs.length = 0; rw [ho.rs]; rfl
          refine decide_eq_true ⟨by rw [eA]; exact hlen, by omega, fun q => by omega, ho.n, by show o.1.nm.size = 0; rw [ho.nm]; rfl, by show o.1.bs.length = 0; rw [ho.bs]; rfl⟩
        split at h
        · rename_i r2 h2
          simp at h
          obtain ⟨rfl, rfl, rfl⟩ := h
          refine ⟨fun _ => ⟨?_, ⟨ho.k, ho.n, ho.nm, ho.rs, ho.bs, fun _ => ⟨k7, by rw [eA]; simp⟩, ho.fl.snoc hc.fl, ho.ok.snoc hc.ok⟩⟩, (fun q => by cases q)⟩
          rw [e1, tk_back h2]
          unfold opTxt
          simp only [if_true]
          rw [eK, eA, txtL_comma]
          simp
        · split at h
          · rename_i r2 h2
            simp at h
            obtain ⟨rfl, rfl, rfl⟩ := h
            refine ⟨(fun q => by cases q), fun _ => ⟨?_, TFl.eq.2 ⟨hfl7 true, hadd.fl, by show LFl o.1.rs; rw [ho.rs]; simp [LFl]⟩, NOk.eq.2 ⟨by show fits o.1.n; rw [ho.n]; exact hf0, by show ∀ b ∈ o.1.bs, _; rw [ho.bs]; simp, hadd.ok, by show LNOk o.1.rs; rw [ho.rs]; simp [LNOk]⟩, .inr ⟨k7, k7⟩⟩⟩
            rw [txt7 (t := addIt o.1 t) k7, e1, if_pos k7, tk_back h2, eA, txtL_comma]
            show _ = [91] ++ _ ++ txtR o.1.rs ++ [93] ++ r2
            rw [ho.rs, txtR]
            simp
          · simp at h
      · rename_i k7
        have k5 : o.1.k = 5 := ho.k.resolve_right k7
        split at h
        · rename_i r2 h2
          simp at h
          obtain ⟨rfl, rfl, rfl⟩ := h
          have hfl5 : flds (addIt o.1 t) = true := by
            unfold flds fldB
            rw [eK, k5, if_neg (by decide), if_neg (by decide), if_neg (by decide), if_neg (by decide), if_pos rfl]
            have er : (addIt o.1 t).rs.length = 0 := by show o.1.rs.length = 0; rw [ho.rs]; rfl
            have eb : (addIt o.1 t).bs.length = 0 := by show o.1.bs.length = 0; rw [ho.bs]; rfl
            exact decide_eq_true ⟨ho.n, by show o.1.nm.size = 0; rw [ho.nm]; rfl, by omega⟩
          refine ⟨(fun q => by cases q), fun _ => ⟨?_, TFl.eq.2 ⟨hfl5, hadd.fl, by show LFl o.1.rs; rw [ho.rs]; simp [LFl]⟩, NOk.eq.2 ⟨by show fits o.1.n; rw [ho.n]; exact hf0, by show ∀ b ∈ o.1.bs, _; rw [ho.bs]; simp, hadd.ok, by show LNOk o.1.rs; rw [ho.rs]; simp [LNOk]⟩, .inl k5⟩⟩
          rw [txt5 (t := addIt o.1 t) k5, e1, if_neg k7, tk_back h2, eA, txtL_comma]
          simp
        · simp at h
/-- the tail of a list is open only within a list -/
def TailOk : List (T × Bool) → Prop
  | [] => True
  | [_] => True
  | o :: p :: stk => (p.2 = true → o.1.k = 5) ∧ TailOk (p :: stk)
theorem TailOk.tl {o : T × Bool} {stk : List (T × Bool)} (h : TailOk (o :: stk)) : TailOk stk := by
  cases stk with
  | nil => trivial
  | cons p stk => exact h.2
theorem run_back : ∀ (k : Nat) (stk : List (T × Bool)) (cur : Option T) (r : List Int) (t : T) (r0 : List Int), r.length ≤ k → InB r → (∀ o ∈ stk, OkO o) → TailOk stk → (∀ c, cur = some c → OkC stk c) → runP stk cur r = some (t, r0) →
    stkTxt stk ++ curTxt cur ++ r = txt t ++ r0 ∧ TFl t ∧ NOk t := by
  intro k
  induction k using Nat.strongRecOn with
  | _ k ih =>
    intro stk cur r t r0 hk hin hst htl hcur h
    have sub : ∀ {r' : List Int}, (∃ a, r = a ++ r') → InB r' := by
      rintro r' ⟨a, rfl⟩ x hx
      exact hin x (by simp [hx])
    cases cur with
    | none =>
      cases hb : beginF (tailOf stk) r with
      | none => rw [runP_bad hb] at h; cases h
      | some q =>
        obtain ⟨c, w, r'⟩ := q
        have hlt := beginF_lt hb
        cases w with
        | true =>
          obtain ⟨e, a1, a2, a3, a4, a5, a6⟩ := begin_back hin hb
          rw [runP_whole hb] at h
          have hc : OkC stk c := ⟨a1, NOk.eq.2 ⟨a2, a6, by rw [a4]; simp [LNOk], by rw [a5]; simp [LNOk]⟩, a3⟩
          have := ih r'.length (by omega) stk (some c) r' t r0 (Nat.le_refl _) (sub ⟨_, e⟩) hst htl (fun c' hc' => by cases hc'; exact hc) h
          refine ⟨?_, this.2⟩
          rw [← this.1, e]
          simp [curTxt]
        | false =>
          rw [runP_open hb] at h
          rcases begin_open hb with ⟨rfl, e⟩ | ⟨rfl, e, e2⟩
          · have ho : OkO (mkT 5 0 ByteArray.empty [], false) := ⟨.inl rfl, rfl, rfl, rfl, rfl, (fun q => by cases q), by show LFl []; simp [LFl], by show LNOk []; simp [LNOk]⟩
            have := ih r'.length (by omega) ((mkT 5 0 ByteArray.empty [], false) :: stk) none r' t r0 (Nat.le_refl _) (sub ⟨[123], e⟩) (fun o hm => by rcases List.mem_cons.1 hm with rfl | hm; exact ho; exact hst o hm) (by
              cases stk with
              | nil => trivial
              | cons p stk => exact ⟨fun _ => rfl, htl⟩) (fun c' hc' => by cases hc') h
            refine ⟨?_, this.2⟩
            rw [← this.1, e, stkTxt]
            have : opTxt (mkT 5 0 ByteArray.empty [], false) = [123] := rfl
            rw [this]
            simp [curTxt]
          · have ho : OkO (mkT 7 0 ByteArray.empty [], false) := ⟨.inr rfl, rfl, rfl, rfl, rfl, (fun q => by cases q), by show LFl []; simp [LFl], by show LNOk []; simp [LNOk]⟩
            have := ih r'.length (by omega) ((mkT 7 0 ByteArray.empty [], false) :: stk) none r' t r0 (Nat.le_refl _) (sub ⟨[91], e⟩) (fun o hm => by rcases List.mem_cons.1 hm with rfl | hm; exact ho; exact hst o hm) (by
              cases stk with
              | nil => trivial
              | cons p stk => exact ⟨(fun q => absurd (show p.2 = false from e2) (by rw [q]; simp)), htl⟩) (fun c' hc' => by cases hc') h
            refine ⟨?_, this.2⟩
            rw [← this.1, e, stkTxt]
            have : opTxt (mkT 7 0 ByteArray.empty [], false) = [91] := rfl
            rw [this]
            simp [curTxt]
    | some c =>
      have hc := hcur c rfl
      cases stk with
      | nil =>
        rw [runP_end] at h
        simp at h
        obtain ⟨rfl, rfl⟩ := h
        exact ⟨by simp [stkTxt, curTxt], hc.fl, hc.ok⟩
      | cons o stk =>
        have ho := hst o (by simp)
        have hst' : ∀ o ∈ stk, OkO o := fun o' hm => hst o' (by simp [hm])
        cases hg : goesF o c r with
        | none => rw [runP_gbad hg] at h; cases h
        | some q =>
          obtain ⟨o', e, r'⟩ := q
          have hlt := goesF_lt hg
          obtain ⟨b1, b2⟩ := goes_back ho hc hg
          have hin' : InB r' := by
            unfold goesF at hg
            split at hg
            · split at hg
              · rename_i h2; simp at hg; obtain ⟨_, _, rfl⟩ := hg; exact sub ⟨[93], tk_back h2⟩
              · simp at hg
            split at hg
            · rename_i h2; simp at hg; obtain ⟨_, _, rfl⟩ := hg; exact sub ⟨[44], tk_back h2⟩
            split at hg
            · split at hg
              · rename_i h2; simp at hg; obtain ⟨_, _, rfl⟩ := hg; exact sub ⟨[124], tk_back h2⟩
              split at hg
              · rename_i h2; simp at hg; obtain ⟨_, _, rfl⟩ := hg; exact sub ⟨[93], tk_back h2⟩
              · simp at hg
            split at hg
            · rename_i h2; simp at hg; obtain ⟨_, _, rfl⟩ := hg; exact sub ⟨[125], tk_back h2⟩
            · simp at hg
          cases e with
          | true =>
            rw [runP_shut hg] at h
            obtain ⟨c1, c2, c3, c4⟩ := b2 rfl
            have hc' : OkC stk o'.1 := ⟨c2, c3, fun q => by
              cases stk with
              | nil => cases q
              | cons p stk =>
                have h5 := htl.1 q
                rcases c4 with c4 | ⟨_, c4⟩
                · omega
                · omega⟩
            have := ih r'.length (by omega) stk (some o'.1) r' t r0 (Nat.le_refl _) hin' hst' htl.tl (fun c' hc2 => by cases hc2; exact hc') h
            refine ⟨?_, this.2⟩
            rw [← this.1]
            simp only [stkTxt, curTxt, List.append_assoc] at c1 ⊢
            rw [c1]
          | false =>
            rw [runP_more hg] at h
            obtain ⟨c1, c2⟩ := b1 rfl
            have hk' : o'.1.k = o.1.k := by
              unfold goesF at hg
              split at hg
              · split at hg <;> simp at hg
              split at hg
              · simp at hg; obtain ⟨rfl, _⟩ := hg; rfl
              split at hg
              · split at hg
                · simp at hg; obtain ⟨rfl, _⟩ := hg; rfl
                split at hg <;> simp at hg
              split at hg <;> simp at hg
            have := ih r'.length (by omega) (o' :: stk) none r' t r0 (Nat.le_refl _) hin' (fun o2 hm => by rcases List.mem_cons.1 hm with rfl | hm; exact c2; exact hst' o2 hm) (by
              cases stk with
              | nil => trivial
              | cons p stk => exact ⟨fun q => by rw [hk']; exact htl.1 q, htl.2⟩) (fun c' hc' => by cases hc') h
            refine ⟨?_, this.2⟩
            rw [← this.1]
            simp only [stkTxt, curTxt, List.append_assoc, List.nil_append] at c1 ⊢
            rw [c1]
theorem run_text {l : List Int} {t : T} (hin : InB l) (h : runP [] none l = some (t, [])) : l = txt t ∧ TFl t ∧ NOk t := by
  have := run_back _ [] none l t [] (Nat.le_refl _) hin (by simp) trivial (fun c hc => by cases hc) h
  refine ⟨?_, this.2⟩
  simpa [stkTxt, curTxt] using this.1
#print axioms run_text
end Go.Proofs.YteaabbghnfideaaDoor
