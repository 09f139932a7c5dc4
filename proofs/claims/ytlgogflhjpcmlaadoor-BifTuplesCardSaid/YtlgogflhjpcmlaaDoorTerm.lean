/-
  TERMS as plain data, and in memory (an archive). No program in sight but the cells of a term.
-/
import Derived.Test.YtlgogflhjpcmlaaDoorFlat
namespace Go.Proofs.YtlgogflhjpcmlaaDoor
open Go.RowKit

inductive T where
  | mk (k n : Int) (nm : ByteArray) (is rs : List T) (bs : List Int)
def T.k : T → Int | .mk k _ _ _ _ _ => k
def T.n : T → Int | .mk _ n _ _ _ _ => n
def T.nm : T → ByteArray | .mk _ _ nm _ _ _ => nm
def T.is : T → List T | .mk _ _ _ is _ _ => is
def T.rs : T → List T | .mk _ _ _ _ rs _ => rs
def T.bs : T → List Int | .mk _ _ _ _ _ bs => bs
instance : Inhabited T := ⟨.mk 0 0 ByteArray.empty [] [] []⟩

theorem T.ind {P : T → Prop} (h : ∀ k n nm is rs bs, (∀ t ∈ is, P t) → (∀ t ∈ rs, P t) → P (.mk k n nm is rs bs)) (t : T) : P t :=
  T.rec (motive_1 := P) (motive_2 := fun l => ∀ t ∈ l, P t) (fun k n nm is rs bs a b => h k n nm is rs bs a b) (fun _ q => by cases q)
    (fun t ts a b x q => (List.mem_cons.1 q).elim (fun e => e ▸ a) (b x)) t

def u8s (l : List Int) : List Value := l.map (.int .u8)
theorem get_u8s {l : List Int} {k : Nat} {x : Int} (h : l[k]? = some x) : (u8s l)[k]? = some (.int .u8 x) := by simp [u8s, h]
theorem length_u8s (l : List Int) : (u8s l).length = l.length := by simp [u8s]
theorem one_u8s (l : List Int) : ∀ v ∈ u8s l, v.oneCell' = true := by
  intro v hv
  obtain ⟨x, _, rfl⟩ := List.mem_map.1 hv
  rfl

/-- cells behind an address that read as a list, in an archive -/
def RdIn (h : Nat → Option Obj) (a : Option Addr) (vs : List Value) : Prop := ∀ j u, vs[j]? = some u → ∃ g off, a = some ⟨g, off, none⟩ ∧ cellIn h g (off + j) = some u
theorem RdIn.mono {h h' : Nat → Option Obj} (l : Le h h') {a : Option Addr} {vs : List Value} (r : RdIn h a vs) : RdIn h' a vs := fun j u hj =>
  let ⟨g, off, e, q⟩ := r j u hj
  ⟨g, off, e, cellIn_mono l q⟩
theorem RdIn.nil (h : Nat → Option Obj) (a : Option Addr) : RdIn h a [] := fun j u hj => by simp at hj
theorem Sat.archRd {W w : World} {L : List HP} {h : Nat → Option Obj} (s : Sat W w (arch h :: L)) {a : Option Addr} {vs : List Value} (r : RdIn h a vs) : Rd w a vs := fun j u hj =>
  let ⟨g, off, e, q⟩ := r j u hj
  ⟨g, off, e, s.cellIn q⟩
theorem Rd.heapOf {w : World} {a : Option Addr} {vs : List Value} (r : Rd w a vs) : RdIn (heapOf w) a vs := fun j u hj =>
  let ⟨g, off, e, q⟩ := r j u hj
  ⟨g, off, e, cellIn_heapOf q⟩
section
variable {W w : World} {L : List HP} {h : Nat → Option Obj}
theorem store_row {e size n c : Nat} {a : Option Addr} {xs : List Value} (s : Sat W w (row e size a n c xs :: arch h :: L)) : ∃ h', Le h h' ∧ RdIn h' a xs ∧ Sat W w (arch h' :: L) := by
  have hl := s.rowLen
  rcases s.rowOpen with ⟨rfl, rfl, rfl, rfl, s'⟩ | ⟨g, off, cur, rfl, s', h4, h5⟩
  · exact ⟨h, Le.refl _, fun j u hj => by simp at hj, s'⟩
  · obtain ⟨h', le, hb, s2⟩ := s'.store
    refine ⟨h', le, fun j u hj => ⟨g, off, rfl, ?_⟩, s2⟩
    unfold cellIn
    rw [hb]
    simp only
    rw [← h5] at hj
    have hjl : j < n * size := by
      rcases Nat.lt_or_ge j (n * size) with q | q
      · exact q
      · rw [List.getElem?_eq_none (by simp; omega)] at hj; cases hj
    rw [List.getElem?_take_of_lt hjl, List.getElem?_drop] at hj
    simpa using hj
/-- a block that was just made, as a list in the archive -/
theorem store_lit {cells : Array Value} {t : TypeId} {b : Nat} (s : Sat W w (blk b (.cells cells t (0, 0)) :: arch h :: L)) : ∃ h', Le h h' ∧ RdIn h' (some ⟨b, 0, none⟩) cells.toList ∧ Sat W w (arch h' :: L) := by
  obtain ⟨h', le, hb, s2⟩ := s.store
  refine ⟨h', le, fun j u hj => ⟨b, 0, rfl, ?_⟩, s2⟩
  unfold cellIn
  rw [hb]
  simpa using hj
end

/-- what is said of the cells of a term, and of a list of terms -/
def tVals (t : T) (ia : Option Addr) (ic : Nat) (ra : Option Addr) (rc : Nat) (ba : Option Addr) (bc : Nat) : List Value :=
  [.int .i64 t.k, .int .i64 t.n, .string t.nm, .slice ia t.is.length ic, .slice ra t.rs.length rc, .slice ba t.bs.length bc]
mutual
def TIn (h : Nat → Option Obj) : T → List Value → Prop
  | .mk k n nm is rs bs, vs => ∃ ia ic ra rc ba bc, vs = [.int .i64 k, .int .i64 n, .string nm, .slice ia is.length ic, .slice ra rs.length rc, .slice ba bs.length bc] ∧
      LIn h is ia 0 ∧ LIn h rs ra 0 ∧ RdIn h ba (u8s bs) ∧ is.length ≤ ic ∧ rs.length ≤ rc ∧ bs.length ≤ bc ∧ ic ≤ maxLen ∧ rc ≤ maxLen ∧ bc ≤ maxLen
def LIn (h : Nat → Option Obj) : List T → Option Addr → Nat → Prop
  | [], _, _ => True
  | t :: ts, a, i => (∃ g off vs, a = some ⟨g, off, none⟩ ∧ (∀ j u, vs[j]? = some u → cellIn h g (off + i * 6 + j) = some u) ∧ TIn h t vs) ∧ LIn h ts a (i + 1)
end
theorem TIn.vals {h : Nat → Option Obj} {t : T} {vs : List Value} (q : TIn h t vs) : ∃ ia ic ra rc ba bc, vs = tVals t ia ic ra rc ba bc ∧ LIn h t.is ia 0 ∧ LIn h t.rs ra 0 ∧ RdIn h ba (u8s t.bs) ∧ t.is.length ≤ ic ∧ t.rs.length ≤ rc ∧ t.bs.length ≤ bc ∧ ic ≤ maxLen ∧ rc ≤ maxLen ∧ bc ≤ maxLen := by
  cases t with
  | mk k n nm is rs bs => unfold TIn at q; exact q
theorem TIn.of {h : Nat → Option Obj} {t : T} {ia ra ba : Option Addr} {ic rc bc : Nat} (h1 : LIn h t.is ia 0) (h2 : LIn h t.rs ra 0) (h3 : RdIn h ba (u8s t.bs)) (h4 : t.is.length ≤ ic ∧ t.rs.length ≤ rc ∧ t.bs.length ≤ bc ∧ ic ≤ maxLen ∧ rc ≤ maxLen ∧ bc ≤ maxLen) : TIn h t (tVals t ia ic ra rc ba bc) := by
  cases t with
  | mk k n nm is rs bs => unfold TIn; exact ⟨ia, ic, ra, rc, ba, bc, rfl, h1, h2, h3, h4⟩
theorem TIn.len {h : Nat → Option Obj} {t : T} {vs : List Value} (q : TIn h t vs) : vs.length = 6 := by
  obtain ⟨_, _, _, _, _, _, rfl, _⟩ := q.vals; rfl
theorem TIn.one {h : Nat → Option Obj} {t : T} {vs : List Value} (q : TIn h t vs) : ∀ v ∈ vs, v.oneCell' = true := by
  obtain ⟨_, _, _, _, _, _, rfl, _⟩ := q.vals
  intro v hv
  simp only [tVals, List.mem_cons, List.not_mem_nil, or_false] at hv
  rcases hv with rfl | rfl | rfl | rfl | rfl | rfl <;> rfl
theorem LIn.mono_of {h h' : Nat → Option Obj} (l : Le h h') : ∀ {ts : List T} {a : Option Addr} {i : Nat}, (∀ t ∈ ts, ∀ vs, TIn h t vs → TIn h' t vs) → LIn h ts a i → LIn h' ts a i
  | [], _, _, _, _ => by simp [LIn]
  | t :: ts, a, i, f, q => by
    unfold LIn at q ⊢
    obtain ⟨⟨g, off, vs, e, c, q1⟩, q2⟩ := q
    exact ⟨⟨g, off, vs, e, fun j u hj => cellIn_mono l (c j u hj), f t (by simp) vs q1⟩, LIn.mono_of l (fun x hx => f x (by simp [hx])) q2⟩
theorem TIn.mono {h h' : Nat → Option Obj} (l : Le h h') (t : T) : ∀ {vs : List Value}, TIn h t vs → TIn h' t vs := by
  induction t using T.ind with
  | h k n nm is rs bs ih1 ih2 =>
    intro vs q
    unfold TIn at q ⊢
    obtain ⟨ia, ic, ra, rc, ba, bc, rfl, q1, q2, q3, q4⟩ := q
    exact ⟨ia, ic, ra, rc, ba, bc, rfl, LIn.mono_of l (fun t ht vs => ih1 t ht) q1, LIn.mono_of l (fun t ht vs => ih2 t ht) q2, q3.mono l, q4⟩
theorem LIn.mono {h h' : Nat → Option Obj} (l : Le h h') {ts : List T} {a : Option Addr} {i : Nat} (q : LIn h ts a i) : LIn h' ts a i := LIn.mono_of l (fun t _ _ => TIn.mono l t) q
theorem LIn.get {h : Nat → Option Obj} : ∀ {ts : List T} {a : Option Addr} {i : Nat} (_ : LIn h ts a i) {j : Nat} {t : T} (_ : ts[j]? = some t),
    ∃ g off vs, a = some ⟨g, off, none⟩ ∧ (∀ k u, vs[k]? = some u → cellIn h g (off + (i + j) * 6 + k) = some u) ∧ TIn h t vs
  | [], _, _, _, j, _, hj => by simp at hj
  | x :: ts, a, i, q, j, t, hj => by
    unfold LIn at q
    cases j with
    | zero =>
      simp only [List.getElem?_cons_zero, Option.some.injEq] at hj
      subst hj
      exact q.1
    | succ j =>
      simp only [List.getElem?_cons_succ] at hj
      have := LIn.get q.2 hj
      rwa [show i + 1 + j = i + (j + 1) by omega] at this
theorem LIn.of_get {h : Nat → Option Obj} : ∀ {ts : List T} {a : Option Addr} {i : Nat}, (∀ j t, ts[j]? = some t → ∃ g off vs, a = some ⟨g, off, none⟩ ∧ (∀ k u, vs[k]? = some u → cellIn h g (off + (i + j) * 6 + k) = some u) ∧ TIn h t vs) → LIn h ts a i
  | [], _, _, _ => by simp [LIn]
  | t :: ts, a, i, f => by
    unfold LIn
    refine ⟨f 0 t rfl, LIn.of_get fun j x hj => ?_⟩
    have := f (j + 1) x (by simpa using hj)
    rwa [show i + 1 + j = i + (j + 1) by omega]
/-- a list of terms from an element on -/
theorem LIn.drop {h : Nat → Option Obj} {ts : List T} {g off : Nat} (q : LIn h ts (some ⟨g, off, none⟩) 0) (k : Nat) : LIn h (ts.drop k) (some ⟨g, off + k * 6, none⟩) 0 :=
  LIn.of_get fun j t hj => by
    rw [List.getElem?_drop] at hj
    obtain ⟨g', off', vs, e, c, q'⟩ := q.get hj
    cases e
    refine ⟨g, off + k * 6, vs, rfl, fun i u hu => ?_, q'⟩
    rw [← c i u hu]
    congr 1
    omega
theorem LIn.nil {h : Nat → Option Obj} (a : Option Addr) (i : Nat) : LIn h [] a i := by simp [LIn]

/-- rows of terms that are being made -/
def TsIn (h : Nat → Option Obj) : List T → List (List Value) → Prop
  | [], vss => vss = []
  | t :: ts, vss => ∃ vs rest, vss = vs :: rest ∧ TIn h t vs ∧ TsIn h ts rest
theorem TsIn.mono {h h' : Nat → Option Obj} (l : Le h h') : ∀ {ts : List T} {vss : List (List Value)}, TsIn h ts vss → TsIn h' ts vss
  | [], _, q => q
  | t :: _, _, ⟨vs, rest, e, q1, q2⟩ => ⟨vs, rest, e, q1.mono l t, TsIn.mono l q2⟩
theorem TsIn.snoc {h : Nat → Option Obj} : ∀ {ts : List T} {vss : List (List Value)} {t : T} {vs : List Value}, TsIn h ts vss → TIn h t vs → TsIn h (ts ++ [t]) (vss ++ [vs])
  | [], _, _, vs, q, p => by
    simp only [TsIn] at q
    subst q
    exact ⟨vs, [], rfl, p, rfl⟩
  | _ :: _, _, _, _, ⟨v, rest, e, q1, q2⟩, p => ⟨v, rest ++ [_], by rw [e]; rfl, q1, TsIn.snoc q2 p⟩
theorem TsIn.get {h : Nat → Option Obj} : ∀ {ts : List T} {vss : List (List Value)} {j : Nat} {t : T}, TsIn h ts vss → ts[j]? = some t → ∃ vs, vss[j]? = some vs ∧ TIn h t vs
  | [], _, _, _, _, hj => by simp at hj
  | x :: ts, _, j, t, ⟨v, rest, e, q1, q2⟩, hj => by
    subst e
    cases j with
    | zero => simp only [List.getElem?_cons_zero, Option.some.injEq] at hj; subst hj; exact ⟨v, rfl, q1⟩
    | succ j => simpa using TsIn.get q2 (by simpa using hj)
theorem TsIn.all6 {h : Nat → Option Obj} : ∀ {ts : List T} {vss : List (List Value)}, TsIn h ts vss → (∀ vs ∈ vss, vs.length = 6) ∧ vss.length = ts.length
  | [], _, q => by simp only [TsIn] at q; subst q; simp
  | _ :: ts, _, ⟨v, rest, e, q1, q2⟩ => by
    subst e
    have := TsIn.all6 q2
    exact ⟨fun vs hv => (List.mem_cons.1 hv).elim (fun e => e ▸ q1.len) (this.1 vs), by simp [this.2]⟩
theorem flatten_get6 : ∀ {vss : List (List Value)} {j : Nat} {vs : List Value}, (∀ v ∈ vss, v.length = 6) → vss[j]? = some vs → ∀ k u, vs[k]? = some u → vss.flatten[j * 6 + k]? = some u
  | [], _, _, _, hj, _, _, _ => by simp at hj
  | v :: rest, j, vs, h6, hj, k, u, hu => by
    cases j with
    | zero =>
      simp only [List.getElem?_cons_zero, Option.some.injEq] at hj
      subst hj
      rw [List.flatten_cons, Nat.zero_mul, Nat.zero_add, List.getElem?_append_left (List.getElem?_eq_some_iff.1 hu).1, hu]
    | succ j =>
      have hv := h6 v (by simp)
      rw [List.flatten_cons, List.getElem?_append_right (by rw [hv]; omega), hv, show (j + 1) * 6 + k - 6 = j * 6 + k by omega]
      exact flatten_get6 (fun x hx => h6 x (by simp [hx])) (by simpa using hj) k u hu
theorem LIn.of_rd {h : Nat → Option Obj} {ts : List T} {vss : List (List Value)} {a : Option Addr} (q : TsIn h ts vss) (r : RdIn h a vss.flatten) : LIn h ts a 0 :=
  LIn.of_get fun j t hj => by
    obtain ⟨vs, hv, ht⟩ := q.get hj
    have h6 := q.all6.1
    have h0 := flatten_get6 h6 hv
    obtain ⟨g, off, e, _⟩ := r _ _ (h0 0 _ (List.getElem?_eq_getElem (by rw [ht.len]; omega)))
    refine ⟨g, off, vs, e, fun k u hu => ?_, ht⟩
    obtain ⟨g', off', e', c⟩ := r _ _ (h0 k u hu)
    rw [e] at e'
    cases e'
    rw [← c]
    congr 1
    omega
theorem TsIn.flat {h : Nat → Option Obj} {ts : List T} {vss : List (List Value)} (q : TsIn h ts vss) : vss.flatten.length = ts.length * 6 := by
  induction ts generalizing vss with
  | nil => simp only [TsIn] at q; subst q; rfl
  | cons t ts ih =>
    obtain ⟨v, rest, rfl, q1, q2⟩ := q
    rw [List.flatten_cons, List.length_append, q1.len, ih q2, List.length_cons]; omega

/-! ### what may be said of any term that came in -/
def fits (n : Int) : Prop := -9223372036854775808 ≤ n ∧ n ≤ 9223372036854775807
mutual
def TOk : T → Prop
  | .mk k n nm is rs bs => fits k ∧ fits n ∧ nm.size ≤ 140737488351232 ∧ is.length ≤ 1353245080300 ∧ rs.length ≤ 1353245080300 ∧ bs.length ≤ 140737488351232 ∧ (∀ b ∈ bs, 0 ≤ b ∧ b ≤ 255) ∧ LOk is ∧ LOk rs
def LOk : List T → Prop
  | [] => True
  | t :: ts => TOk t ∧ LOk ts
end
theorem LOk.mem : ∀ {ts : List T} {t : T}, LOk ts → t ∈ ts → TOk t
  | [], _, _, h => by cases h
  | x :: ts, t, q, h => by
    unfold LOk at q
    rcases List.mem_cons.1 h with rfl | h
    · exact q.1
    · exact LOk.mem q.2 h
theorem LOk.of : ∀ {ts : List T}, (∀ t ∈ ts, TOk t) → LOk ts
  | [], _ => by simp [LOk]
  | t :: ts, f => by unfold LOk; exact ⟨f t (by simp), LOk.of fun x hx => f x (by simp [hx])⟩
structure TFit (t : T) : Prop where
  k : fits t.k
  n : fits t.n
  nm : t.nm.size ≤ 140737488351232
  is : t.is.length ≤ 1353245080300
  rs : t.rs.length ≤ 1353245080300
  bs : t.bs.length ≤ 140737488351232
  b : ∀ b ∈ t.bs, 0 ≤ b ∧ b ≤ 255
  si : ∀ x ∈ t.is, TOk x
  sr : ∀ x ∈ t.rs, TOk x
theorem TOk.fit {t : T} (q : TOk t) : TFit t := by
  cases t with
  | mk k n nm is rs bs =>
    unfold TOk at q
    obtain ⟨h1, h2, h3, h4, h5, h6, h7, h8, h9⟩ := q
    exact ⟨h1, h2, h3, h4, h5, h6, h7, fun x hx => h8.mem hx, fun x hx => h9.mem hx⟩
theorem TFit.ok {t : T} (q : TFit t) : TOk t := by
  cases t with
  | mk k n nm is rs bs => unfold TOk; exact ⟨q.k, q.n, q.nm, q.is, q.rs, q.bs, q.b, LOk.of q.si, LOk.of q.sr⟩
#print axioms LIn.of_rd
end Go.Proofs.YtlgogflhjpcmlaaDoor
