/-
  tree.Write of any term: a right term's leaves can be told, its text is short.
-/
import Derived.Test.YtlgogflhjpcmlaaDoorQuo
import Derived.Test.YtlgogflhjpcmlaaDoorWTop
import Derived.Lib.ItoaLen
namespace Go.Proofs.YtlgogflhjpcmlaaDoor
open Go.RowKit
set_option maxHeartbeats 2000000

mutual
def sz : T → Nat
  | .mk k n nm is rs bs => 1 + addB (.mk k n nm is rs bs) + (szL is + szL rs)
def szL : List T → Nat
  | [] => 0
  | t :: ts => sz t + szL ts
end
theorem sz_eq (t : T) : sz t = 1 + addB t + (szL t.is + szL t.rs) := by cases t with | mk k n nm is rs bs => rw [sz]; rfl
theorem sz_mem : ∀ {ts : List T} {t : T}, t ∈ ts → sz t ≤ szL ts
  | [], _, h => by cases h
  | x :: ts, t, h => by
    rw [szL]
    rcases List.mem_cons.1 h with rfl | h
    · omega
    · have := sz_mem h; omega
theorem chk_sz (t : T) : ∀ (d p b : Nat) (s : Nat × Nat), chk d t p b = (s, none) → s.1 + s.2 = p + b + sz t := by
  have key : ∀ (ts : List T), (∀ t ∈ ts, ∀ (d p b : Nat) (s : Nat × Nat), chk d t p b = (s, none) → s.1 + s.2 = p + b + sz t) → ∀ (d p b : Nat) (s : Nat × Nat), chkL d ts p b = (s, none) → s.1 + s.2 = p + b + szL ts := by
    intro ts
    induction ts with
    | nil =>
      intro _ d p b s q
      simp only [chkL, Prod.mk.injEq, and_true] at q
      subst q; simp [szL]
    | cons x xs ih =>
      intro f d p b s q
      rw [chkL] at q
      cases hx : chk d x p b with
      | mk s1 e =>
        rw [hx] at q
        cases e with
        | some e => simp at q
        | none =>
          have h1 := f x (by simp) d p b s1 hx
          have h2 := ih (fun t ht => f t (by simp [ht])) d s1.1 s1.2 s q
          rw [szL]
          omega
  induction t using T.ind with
  | h k n nm is rs bs ih1 ih2 =>
    intro d p b s q
    rw [chk_eq] at q
    cases h0 : chk0 d (.mk k n nm is rs bs) p b with
    | some e => rw [h0] at q; simp at q
    | none =>
      rw [h0] at q
      simp only at q
      cases h1 : chkL (d + 1) (T.mk k n nm is rs bs).is (p + 1) (b + addB (.mk k n nm is rs bs)) with
      | mk s1 e =>
        rw [h1] at q
        cases e with
        | some e => simp at q
        | none =>
          have a1 := key is ih1 (d + 1) _ _ s1 h1
          have a2 := key rs ih2 (d + 1) _ _ s q
          rw [sz]
          omega
theorem right_sz {t : T} (h : rightOf t = none) : sz t ≤ 65536 := by
  unfold rightOf at h
  cases hc : chk 1 t 0 0 with
  | mk s e =>
    rw [hc] at h
    simp only at h
    subst h
    have h1 := chk_sz t 1 0 0 s hc
    have h2 := chk_small 1 t 0 0 s (by omega) hc
    omega
theorem wt_sz (t : T) : wt t ≤ 3 * sz t := by
  have key : ∀ (ts : List T), (∀ t ∈ ts, wt t ≤ 3 * sz t) → wtL ts ≤ 3 * szL ts := by
    intro ts
    induction ts with
    | nil => intro _; simp [wtL, szL]
    | cons x xs ih =>
      intro f
      rw [wtL, szL]
      have := f x (by simp)
      have := ih fun t ht => f t (by simp [ht])
      omega
  induction t using T.ind with
  | h k n nm is rs bs ih1 ih2 =>
    rw [wt, sz]
    have h1 := key is ih1
    have h2 := key rs ih2
    split <;> omega

/-! ### the text's length -/
theorem num_len {n : Int} (h : fits n) : (num n).length ≤ 21 := by
  unfold num
  rw [List.length_map]
  exact Lib.itoa_length_le n h.1 h.2
theorem name_len (s : ByteArray) : (nameT s).length ≤ 4 * s.size + 2 := by
  unfold nameT quo
  have h1 := byts_len s
  have h2 := flat4 (byts s)
  split
  · omega
  · simp only [List.length_append, List.length_cons, List.length_nil]; omega
theorem joinB_len (bs : List Int) (h : ∀ b ∈ bs, 0 ≤ b ∧ b ≤ 255) : (joinB bs).length ≤ 22 * bs.length := by
  cases bs with
  | nil => simp [joinB]
  | cons x xs =>
    have key : ∀ l : List Int, (∀ b ∈ l, 0 ≤ b ∧ b ≤ 255) → (l.flatMap fun y => 44 :: num y).length ≤ 22 * l.length := by
      intro l
      induction l with
      | nil => simp
      | cons y l ih =>
        intro h
        rw [List.flatMap_cons, List.length_append, List.length_cons, List.length_cons]
        have h1 := num_len (n := y) (by have := h y (by simp); unfold fits; omega)
        have h2 := ih fun b hb => h b (by simp [hb])
        omega
    rw [joinB, List.length_append, List.length_cons]
    have h1 := num_len (n := x) (by have := h x (by simp); unfold fits; omega)
    have h2 := key xs fun b hb => h b (by simp [hb])
    omega
theorem txtM_len : ∀ (ts : List T), (∀ t ∈ ts, (txt t).length + 2 ≤ 1100 * sz t) → (txtM ts).length ≤ 1100 * szL ts
  | [], _ => by simp [txtM]
  | t :: ts, h => by
    rw [txtM, List.length_cons, List.length_append, szL]
    have := h t (by simp)
    have := txtM_len ts fun x hx => h x (by simp [hx])
    omega
theorem txtL_len (ts : List T) (h : ∀ t ∈ ts, (txt t).length + 2 ≤ 1100 * sz t) : (txtL ts).length ≤ 1100 * szL ts := by
  cases ts with
  | nil => simp [txtL]
  | cons t ts =>
    rw [txtL, List.length_append, szL]
    have := h t (by simp)
    have := txtM_len ts fun x hx => h x (by simp [hx])
    omega
theorem txtR_len (ts : List T) (h : ∀ t ∈ ts, (txt t).length + 2 ≤ 1100 * sz t) : (txtR ts).length ≤ 1100 * szL ts := by
  cases ts with
  | nil => simp [txtR]
  | cons t ts =>
    rw [txtR, List.length_cons, szL]
    have := h t (by simp)
    omega
theorem fl_name {t : T} (h : flds t = true) (hk : t.k = 2) : 1 ≤ t.nm.size ∧ t.nm.size ≤ 255 := by
  cases t with
  | mk k n nm is rs bs =>
    unfold flds fldB at h
    simp only [T.k, T.n, T.nm, T.is, T.rs, T.bs] at h hk ⊢
    subst hk
    simp at h
    omega
theorem txt_len (t : T) : TOk t → TFl t → (txt t).length + 2 ≤ 1100 * sz t := by
  induction t using T.ind with
  | h k n nm is rs bs ih1 ih2 =>
    intro hok hfl
    have hf := hok.fit
    have hl := TFl.eq.1 hfl
    have i1 : ∀ x ∈ is, (txt x).length + 2 ≤ 1100 * sz x := fun x hx => ih1 x hx (hf.si x hx) (hl.2.1.mem hx)
    have i2 : ∀ x ∈ rs, (txt x).length + 2 ≤ 1100 * sz x := fun x hx => ih2 x hx (hf.sr x hx) (hl.2.2.mem hx)
    have h1 := num_len (n := n) hf.n
    have h2 := txtL_len is i1
    have h3 := txtR_len rs i2
    have h4 := name_len nm
    have h5 := joinB_len bs hf.b
    have h6 : k = 2 → nm.size ≤ 255 := fun hk => (fl_name hl.1 hk).2
    have h7 : addB (.mk k n nm is rs bs) = if k = 8 then bs.length else 0 := rfl
    rw [txt, sz, h7]
    by_cases q3 : k = 3
    · rw [if_pos q3]; simp only [List.length_append, List.length_cons, List.length_nil]; omega
    · by_cases q4 : k = 4
      · rw [if_neg q3, if_pos q4]; simp only [List.length_append, List.length_cons, List.length_nil]; omega
      · by_cases q1 : k = 1
        · rw [if_neg q3, if_neg q4, if_pos q1]; omega
        · by_cases q2 : k = 2
          · rw [if_neg q3, if_neg q4, if_neg q1, if_pos q2]; have := h6 q2; omega
          · by_cases q5 : k = 5
            · rw [if_neg q3, if_neg q4, if_neg q1, if_neg q2, if_pos q5]; simp only [List.length_append, List.length_cons, List.length_nil]; omega
            · by_cases q6 : k = 6
              · rw [if_neg q3, if_neg q4, if_neg q1, if_neg q2, if_neg q5, if_pos q6]; simp only [List.length_cons, List.length_nil]; omega
              · by_cases q7 : k = 7
                · rw [if_neg q3, if_neg q4, if_neg q1, if_neg q2, if_neg q5, if_neg q6, if_pos q7]; simp only [List.length_append, List.length_cons, List.length_nil]; omega
                · by_cases q8 : k = 8
                  · rw [if_neg q3, if_neg q4, if_neg q1, if_neg q2, if_neg q5, if_neg q6, if_neg q7, if_pos q8, if_pos q8]; simp only [List.length_append, List.length_cons, List.length_nil]; omega
                  · rw [if_neg q3, if_neg q4, if_neg q1, if_neg q2, if_neg q5, if_neg q6, if_neg q7, if_neg q8]; simp only [List.length_nil]; omega

/-! ### the text's bytes -/
def InB (l : List Int) : Prop := ∀ b ∈ l, 0 ≤ b ∧ b ≤ 255
theorem InB.app {a b : List Int} (h : InB a) (k : InB b) : InB (a ++ b) := fun x hx => (List.mem_append.1 hx).elim (h x) (k x)
theorem InB.cons {x : Int} {b : List Int} (h : 0 ≤ x ∧ x ≤ 255) (k : InB b) : InB (x :: b) := fun y hy => (List.mem_cons.1 hy).elim (fun e => e ▸ h) (k y)
theorem InB.nil : InB [] := fun x hx => by cases hx
theorem num_in (n : Int) : InB (num n) := by
  intro x hx
  obtain ⟨b, _, rfl⟩ := List.mem_map.1 hx
  have := b.toNat_lt
  omega
theorem quo_in (s : ByteArray) : InB (quo s) := by
  unfold quo
  refine InB.app (InB.app (InB.cons (by omega) InB.nil) fun x hx => ?_) (InB.cons (by omega) InB.nil)
  obtain ⟨y, hy, hxy⟩ := List.mem_flatMap.1 hx
  exact quoB_in (byts_in s y hy) x hxy
theorem name_in (s : ByteArray) : InB (nameT s) := by
  unfold nameT
  split
  · exact byts_in s
  · exact quo_in s
theorem joinB_in (bs : List Int) : InB (joinB bs) := by
  cases bs with
  | nil => exact InB.nil
  | cons x xs =>
    refine InB.app (num_in x) fun z hz => ?_
    obtain ⟨y, _, hzy⟩ := List.mem_flatMap.1 hz
    exact InB.cons (by omega) (num_in y) z hzy
theorem txtM_in : ∀ (ts : List T), (∀ t ∈ ts, InB (txt t)) → InB (txtM ts)
  | [], _ => InB.nil
  | t :: ts, h => by
    rw [txtM]
    exact InB.cons (by omega) (InB.app (h t (by simp)) (txtM_in ts fun x hx => h x (by simp [hx])))
theorem txt_in (t : T) : InB (txt t) := by
  induction t using T.ind with
  | h k n nm is rs bs ih1 ih2 =>
    have hL : InB (txtL is) := by
      cases is with
      | nil => exact InB.nil
      | cons x xs => rw [txtL]; exact InB.app (ih1 x (by simp)) (txtM_in xs fun y hy => ih1 y (by simp [hy]))
    have hR : InB (txtR rs) := by
      cases rs with
      | nil => exact InB.nil
      | cons x xs => rw [txtR]; exact InB.cons (by omega) (ih2 x (by simp))
    rw [txt]
    repeat' split
    · exact InB.app (InB.cons (by omega) (InB.cons (by omega) InB.nil)) (num_in n)
    · exact InB.app (InB.cons (by omega) (InB.cons (by omega) InB.nil)) (num_in n)
    · exact num_in n
    · exact name_in nm
    · exact InB.app (InB.app (InB.cons (by omega) InB.nil) hL) (InB.cons (by omega) InB.nil)
    · exact InB.cons (by omega) (InB.cons (by omega) InB.nil)
    · exact InB.app (InB.app (InB.app (InB.cons (by omega) InB.nil) hL) hR) (InB.cons (by omega) InB.nil)
    · exact InB.app (InB.app (InB.cons (by omega) (InB.cons (by omega) InB.nil)) (joinB_in bs)) (InB.cons (by omega) (InB.cons (by omega) InB.nil))
    · exact InB.nil

/-! ### Write of any term -/
theorem told_fl {h0 : Nat → Option Obj} (q : Tab h0) (t : T) : TOk t → TFl t → Told h0 t := by
  have key : ∀ ts : List T, (∀ t ∈ ts, Told h0 t) → ToldL h0 ts := by
    intro ts
    induction ts with
    | nil => intro _; simp [ToldL]
    | cons x xs ih => intro f; unfold ToldL; exact ⟨f x (by simp), ih fun t ht => f t (by simp [ht])⟩
  induction t using T.ind with
  | h k n nm is rs bs ih1 ih2 =>
    intro hok hfl
    have hf := hok.fit
    have hl := TFl.eq.1 hfl
    unfold Told
    refine ⟨⟨fun _ => fmt_c q n hf.n, fun hk => .inr (quo_c _ ?_), fun _ b hb => ito_c q b ?_⟩, key is fun x hx => ih1 x hx (hf.si x hx) (hl.2.1.mem hx), key rs fun x hx => ih2 x hx (hf.sr x hx) (hl.2.2.mem hx)⟩
    · have := (fl_name hl.1 hk).2
      omega
    · have := hf.b b hb
      unfold fits; omega
section
variable {W w : World} {L : List HP} {h : Nat → Option Obj}
theorem write_any (q : Tab h) (S : Sat W w (arch h :: L)) (t : T) (vs : List Value) (hin : TIn h t vs) (hok : TOk t) :
    Calls Tryd.prog 73 #[.agg vs.toArray] w fun e w' => ∃ s v h', e = .returned (.tuple #[s, v]) ∧ Le h h' ∧ WOf h' t s v ∧ Sat W w' (arch h' :: L) := by
  refine write_top S t vs hin hok fun hr => ⟨told_fl q t hok (right_fl hr), ?_, strOfNums (txt t), strOf_byts _ (txt_in t)⟩
  have h1 := txt_len t hok (right_fl hr)
  have h2 := right_sz hr
  omega
theorem Tab.mono {h h' : Nat → Option Obj} (l : Le h h') (q : Tab h) : Tab h' := by
  obtain ⟨g, cs, t, fr, hg, hh, e⟩ := q
  exact ⟨g, cs, t, fr, hg, l g _ hh, e⟩
end
#print axioms write_any
end Go.Proofs.YtlgogflhjpcmlaaDoor
