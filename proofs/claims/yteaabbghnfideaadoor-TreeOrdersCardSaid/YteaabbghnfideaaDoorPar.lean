/-
  tree.Parse: what the parser does, on the bytes that are left to read: plain. (wip/plain/Par.lean)
-/
import Derived.Test.YteaabbghnfideaaDoorTold
namespace Go.Proofs.YteaabbghnfideaaDoor
set_option linter.unusedVariables false
/-! ### reading: what the parser does, on the bytes that are left -/
def hexI (c : Int) : Int := if 48 ≤ c ∧ c ≤ 57 then c - 48 else if 97 ≤ c ∧ c ≤ 102 then c - 87 else -1
def headI (r : List Int) : Int := r.headD 0
def tk (b : Int) : List Int → Option (List Int)
  | [] => none
  | c :: r => if c = b then some r else none
def digs (most : Int) : Int → List Int → Int × List Int
  | n, [] => (n, [])
  | n, c :: r => if digB c = true ∧ ¬ n > (most - (c - 48)) / 10 then digs most (10 * n + (c - 48)) r else (n, c :: r)
def digitsF (most : Int) : List Int → Option (Int × List Int)
  | [] => none
  | c :: r => if c = 48 then some (0, r) else if digB c = true then some (digs most 0 (c :: r)) else none
def intF (r : List Int) : Option (Int × List Int) :=
  match tk 45 r with
  | none => digitsF 9223372036854775807 r
  | some r1 => if headI r1 = 48 then none else match digitsF 9223372036854775808 r1 with
    | some (n, r2) => some (-n, r2)
    | none => none
def mkT (k n : Int) (nm : ByteArray) (bs : List Int) : T := .mk k n nm [] [] bs
def refF : List Int → Option (T × List Int)
  | [] => none
  | c :: r => if c = 114 ∨ c = 112 then (match digitsF 1152921504606846975 r with
      | some (n, r2) => some (mkT (if c = 114 then 3 else 4) n ByteArray.empty [], r2)
      | none => none) else none
theorem tk_lt {b : Int} {r r' : List Int} (h : tk b r = some r') : r'.length + 1 = r.length := by
  cases r with
  | nil => simp [tk] at h
  | cons c r =>
    simp only [tk] at h
    split at h
    · injection h with h; rw [h]; rfl
    · cases h
theorem digs_le (most : Int) : ∀ (r : List Int) (n : Int), (digs most n r).2.length ≤ r.length
  | [], n => by simp [digs]
  | c :: r, n => by
    rw [digs]
    split
    · have := digs_le most r (10 * n + (c - 48)); rw [List.length_cons]; omega
    · exact Nat.le_refl _
theorem digitsF_lt {most : Int} {r : List Int} {n : Int} {r' : List Int} (hm : 9 ≤ most) (h : digitsF most r = some (n, r')) : r'.length < r.length := by
  cases r with
  | nil => simp [digitsF] at h
  | cons c r =>
    rw [digitsF] at h
    split at h
    · simp at h; obtain ⟨_, rfl⟩ := h; simp
    · split at h
      · rename_i hd
        simp only [Option.some.injEq] at h
        have h2 := congrArg Prod.snd h
        rw [digs] at h2
        rw [if_pos ⟨hd, by unfold digB at hd; have := of_decide_eq_true hd; omega⟩] at h2
        have := digs_le most r (10 * 0 + (c - 48))
        rw [h2] at this
        simp only [List.length_cons]
        simp only at this
        omega
      · simp at h
def binL (out : List Int) (r : List Int) : Option (List Int × List Int) :=
  match h : digitsF 255 r with
  | none => none
  | some (b, r1) => match h1 : tk 44 r1 with
    | some r2 => binL (out ++ [b]) r2
    | none => match tk 62 r1 with
      | none => none
      | some r2 => match tk 62 r2 with
        | none => none
        | some r3 => some (out ++ [b], r3)
termination_by r.length
decreasing_by
  have := digitsF_lt (by decide) h
  have := tk_lt h1
  omega
def binF (r : List Int) : Option (List Int × List Int) :=
  match tk 60 r with
  | none => none
  | some r1 => match tk 62 r1 with
    | some r2 => (match tk 62 r2 with | some r3 => some ([], r3) | none => none)
    | none => binL [] r1
/-- how many bytes of a word, at most so many -/
def wcnt : Nat → List Int → Nat
  | 0, _ => 0
  | _, [] => 0
  | n + 1, c :: r => if letB c || (digB c || decide (c = 95)) then wcnt n r + 1 else 0
def escF : List Int → Option (Int × List Int)
  | [] => none
  | c :: r => if c = 39 ∨ c = 92 then some (c, r) else if c = 120 then (match r with
      | h :: l :: r' => if hexI h < 0 ∨ (1 < hexI h ∧ hexI h < 7) then none else if hexI l < 0 ∨ oddB (16 * hexI h + hexI l) = false then none else some (16 * hexI h + hexI l, r')
      | _ => none) else none
theorem escF_lt {r : List Int} {c : Int} {r' : List Int} (h : escF r = some (c, r')) : r'.length < r.length := by
  unfold escF at h
  split at h
  · simp at h
  · split at h
    · simp at h; obtain ⟨_, rfl⟩ := h; simp
    · split at h
      · split at h
        · split at h
          · simp at h
          · split at h
            · simp at h
            · simp at h; obtain ⟨_, rfl⟩ := h; simp; omega
        · simp at h
      · simp at h
def wordL (l : List Int) : Bool := !l.isEmpty && wordFrom 0 l
def nameF (out : List Int) (r : List Int) : Option (List Int × List Int) :=
  match r with
  | [] => none
  | c :: r1 =>
    if c = 39 then (if out = [] ∨ wordL out = true then none else some (out, r1))
    else if out.length = 255 ∨ oddB c = true then none
    else if c = 92 then (match h : escF r1 with
      | none => none
      | some (d, r2) => nameF (out ++ [d]) r2)
    else nameF (out ++ [c]) r1
termination_by r.length
decreasing_by
  · have := escF_lt h; simp; omega
  · simp
def beginF (tail : Bool) : List Int → Option (T × Bool × List Int)
  | [] => none
  | c :: r =>
    if c = 123 then (match tk 125 r with | some r2 => some (mkT 5 0 ByteArray.empty [], true, r2) | none => some (mkT 5 0 ByteArray.empty [], false, r))
    else if c = 91 ∧ tail = false then (match tk 93 r with | some r2 => some (mkT 6 0 ByteArray.empty [], true, r2) | none => some (mkT 7 0 ByteArray.empty [], false, r))
    else if c = 60 then (match binF r with | some (bs, r2) => some (mkT 8 0 ByteArray.empty bs, true, r2) | none => none)
    else if c = 35 then (match refF r with | some (t, r2) => some (t, true, r2) | none => none)
    else if c = 39 then (match nameF [] r with | some (l, r2) => some (mkT 2 0 (strOfNums l) [], true, r2) | none => none)
    else if letB c = true then some (mkT 2 0 (strOfNums ((c :: r).take (wcnt 255 (c :: r)))) [], true, (c :: r).drop (wcnt 255 (c :: r)))
    else if c = 45 ∨ digB c = true then (match intF (c :: r) with | some (n, r2) => some (mkT 1 n ByteArray.empty [], true, r2) | none => none)
    else none
theorem binL_lt : ∀ (k : Nat) (r : List Int) (out bs r' : List Int), r.length ≤ k → binL out r = some (bs, r') → r'.length < r.length := by
  intro k
  induction k with
  | zero =>
    intro r out bs r' hk h
    cases r with
    | nil => unfold binL at h; simp [digitsF] at h
    | cons c r => simp at hk
  | succ k ih =>
    intro r out bs r' hk h
    unfold binL at h
    split at h
    · simp at h
    · rename_i b r1 hd
      have h1 := digitsF_lt (by decide) hd
      split at h
      · rename_i r2 ht
        have h2 := tk_lt ht
        have := ih r2 _ _ _ (by omega) h
        omega
      · split at h
        · simp at h
        · rename_i r2 ht
          split at h
          · simp at h
          · rename_i r3 ht2
            simp at h
            obtain ⟨_, rfl⟩ := h
            have := tk_lt ht
            have := tk_lt ht2
            omega
theorem binF_lt {r bs r' : List Int} (h : binF r = some (bs, r')) : r'.length < r.length := by
  unfold binF at h
  split at h
  · simp at h
  · rename_i r1 h1
    have := tk_lt h1
    split at h
    · rename_i r2 h2
      have := tk_lt h2
      split at h
      · rename_i r3 h3
        have := tk_lt h3
        simp at h
        obtain ⟨_, rfl⟩ := h
        omega
      · simp at h
    · have := binL_lt _ _ _ _ _ (Nat.le_refl _) h
      omega
theorem nameF_lt : ∀ (k : Nat) (r : List Int) (out l r' : List Int), r.length ≤ k → nameF out r = some (l, r') → r'.length < r.length := by
  intro k
  induction k with
  | zero =>
    intro r out l r' hk h
    cases r with
    | nil => unfold nameF at h; simp at h
    | cons c r => simp at hk
  | succ k ih =>
    intro r out l r' hk h
    unfold nameF at h
    split at h
    · simp at h
    · rename_i c r1
      simp only [List.length_cons] at hk ⊢
      split at h
      · split at h
        · simp at h
        · simp at h; obtain ⟨_, rfl⟩ := h; omega
      · split at h
        · simp at h
        · split at h
          · split at h
            · simp at h
            · rename_i d r2 he
              have := escF_lt he
              have := ih r2 _ _ _ (by omega) h
              omega
          · have := ih r1 _ _ _ (by omega) h
            omega
theorem refF_lt {r : List Int} {t : T} {r' : List Int} (h : refF r = some (t, r')) : r'.length < r.length := by
  unfold refF at h
  split at h
  · simp at h
  · split at h
    · split at h
      · rename_i hd
        simp at h
        obtain ⟨_, rfl⟩ := h
        have := digitsF_lt (by decide) hd
        simp; omega
      · simp at h
    · simp at h
theorem intF_lt {r : List Int} {n : Int} {r' : List Int} (h : intF r = some (n, r')) : r'.length < r.length := by
  unfold intF at h
  split at h
  · exact digitsF_lt (by decide) h
  · rename_i r1 h1
    have := tk_lt h1
    split at h
    · simp at h
    · split at h
      · rename_i hd
        simp at h
        obtain ⟨_, rfl⟩ := h
        have := digitsF_lt (by decide) hd
        omega
      · simp at h
theorem beginF_lt {tail : Bool} {r : List Int} {t : T} {whole : Bool} {r' : List Int} (h : beginF tail r = some (t, whole, r')) : r'.length < r.length := by
  unfold beginF at h
  split at h
  · simp at h
  · rename_i c r
    simp only [List.length_cons]
    split at h
    · split at h
      · rename_i r2 h2
        have := tk_lt h2
        simp at h; obtain ⟨_, _, rfl⟩ := h; omega
      · simp at h; obtain ⟨_, _, rfl⟩ := h; omega
    split at h
    · split at h
      · rename_i r2 h2
        have := tk_lt h2
        simp at h; obtain ⟨_, _, rfl⟩ := h; omega
      · simp at h; obtain ⟨_, _, rfl⟩ := h; omega
    split at h
    · split at h
      · rename_i hb
        have := binF_lt hb
        simp at h; obtain ⟨_, _, rfl⟩ := h; omega
      · simp at h
    split at h
    · split at h
      · rename_i hb
        have := refF_lt hb
        simp at h; obtain ⟨_, _, rfl⟩ := h; omega
      · simp at h
    split at h
    · split at h
      · rename_i hb
        have := nameF_lt _ _ _ _ _ (Nat.le_refl _) hb
        simp at h; obtain ⟨_, _, rfl⟩ := h; omega
      · simp at h
    split at h
    · rename_i hl
      simp at h; obtain ⟨_, _, rfl⟩ := h
      have : wcnt 255 (c :: r) = wcnt 254 r + 1 := by
        rw [wcnt, if_pos (by simp [hl])]
      rw [this]
      simp; omega
    split at h
    · split at h
      · rename_i hb
        have := intF_lt hb
        simp at h; obtain ⟨_, _, rfl⟩ := h
        simpa using this
      · simp at h
    · simp at h
def setRs (o t : T) : T := .mk o.k o.n o.nm o.is [t] o.bs
def addIt (o t : T) : T := .mk o.k o.n o.nm (o.is ++ [t]) o.rs o.bs
/-- a term goes into what is open: what is open then, whether it ends there -/
def goesF (o : T × Bool) (t : T) (r : List Int) : Option ((T × Bool) × Bool × List Int) :=
  if o.2 = true then (match tk 93 r with | some r2 => some ((setRs o.1 t, true), true, r2) | none => none)
  else match tk 44 r with
    | some r2 => some ((addIt o.1 t, false), false, r2)
    | none => if o.1.k = 7 then (match tk 124 r with
        | some r2 => some ((addIt o.1 t, true), false, r2)
        | none => match tk 93 r with | some r2 => some ((addIt o.1 t, false), true, r2) | none => none)
      else match tk 125 r with | some r2 => some ((addIt o.1 t, false), true, r2) | none => none
theorem goesF_lt {o : T × Bool} {t : T} {r : List Int} {o' : T × Bool} {e : Bool} {r' : List Int} (h : goesF o t r = some (o', e, r')) : r'.length < r.length := by
  unfold goesF at h
  split at h
  · split at h
    · rename_i h2; have := tk_lt h2; simp at h; obtain ⟨_, _, rfl⟩ := h; omega
    · simp at h
  split at h
  · rename_i h2; have := tk_lt h2; simp at h; obtain ⟨_, _, rfl⟩ := h; omega
  split at h
  · split at h
    · rename_i h2; have := tk_lt h2; simp at h; obtain ⟨_, _, rfl⟩ := h; omega
    split at h
    · rename_i h2; have := tk_lt h2; simp at h; obtain ⟨_, _, rfl⟩ := h; omega
    · simp at h
  split at h
  · rename_i h2; have := tk_lt h2; simp at h; obtain ⟨_, _, rfl⟩ := h; omega
  · simp at h
def tailOf : List (T × Bool) → Bool
  | [] => false
  | o :: _ => o.2
/-- what is open (the innermost ahead), a term that is whole, what is left to read -/
def runP (stk : List (T × Bool)) (cur : Option T) (r : List Int) : Option (T × List Int) :=
  match cur with
  | none => match h : beginF (tailOf stk) r with
    | none => none
    | some (t, false, r') => runP ((t, false) :: stk) none r'
    | some (t, true, r') => runP stk (some t) r'
  | some t => match stk with
    | [] => some (t, r)
    | o :: stk' => match h : goesF o t r with
      | none => none
      | some (o', true, r') => runP stk' (some o'.1) r'
      | some (o', false, r') => runP (o' :: stk') none r'
termination_by r.length
decreasing_by
  · exact beginF_lt h
  · exact beginF_lt h
  · exact goesF_lt h
  · exact goesF_lt h
theorem runP_open {stk : List (T × Bool)} {r : List Int} {t : T} {r' : List Int} (h : beginF (tailOf stk) r = some (t, false, r')) : runP stk none r = runP ((t, false) :: stk) none r' := by
  rw [runP]; split
  · rename_i e; rw [h] at e; cases e
  · rename_i e; rw [h] at e; cases e; rfl
  · rename_i e; rw [h] at e; cases e
theorem runP_whole {stk : List (T × Bool)} {r : List Int} {t : T} {r' : List Int} (h : beginF (tailOf stk) r = some (t, true, r')) : runP stk none r = runP stk (some t) r' := by
  rw [runP]; split
  · rename_i e; rw [h] at e; cases e
  · rename_i e; rw [h] at e; cases e
  · rename_i e; rw [h] at e; cases e; rfl
theorem runP_bad {stk : List (T × Bool)} {r : List Int} (h : beginF (tailOf stk) r = none) : runP stk none r = none := by
  rw [runP]; split
  · rfl
  · rename_i e; rw [h] at e; cases e
  · rename_i e; rw [h] at e; cases e
theorem runP_end {t : T} {r : List Int} : runP [] (some t) r = some (t, r) := by rw [runP]
theorem runP_gbad {o : T × Bool} {stk : List (T × Bool)} {t : T} {r : List Int} (h : goesF o t r = none) : runP (o :: stk) (some t) r = none := by
  rw [runP]; split
  · rfl
  · rename_i e; rw [h] at e; cases e
  · rename_i e; rw [h] at e; cases e
theorem runP_shut {o o' : T × Bool} {stk : List (T × Bool)} {t : T} {r r' : List Int} (h : goesF o t r = some (o', true, r')) : runP (o :: stk) (some t) r = runP stk (some o'.1) r' := by
  rw [runP]; split
  · rename_i e; rw [h] at e; cases e
  · rename_i e; rw [h] at e; cases e; rfl
  · rename_i e; rw [h] at e; cases e
theorem runP_more {o o' : T × Bool} {stk : List (T × Bool)} {t : T} {r r' : List Int} (h : goesF o t r = some (o', false, r')) : runP (o :: stk) (some t) r = runP (o' :: stk) none r' := by
  conv => lhs; rw [runP]
  split
  · rename_i e; rw [h] at e; cases e
  · rename_i e; rw [h] at e; cases e
  · rename_i e; rw [h] at e; cases e; rfl
#print axioms runP_more
end Go.Proofs.YteaabbghnfideaaDoor
