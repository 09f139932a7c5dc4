/-
  A SMALL SEPARATION LOGIC ON BLOCKS, over the model's worlds: 'Sat W w [A, B, C]': the heap of w holds, in disjoint parts, what A, B and C say; the streams of w are those of W. No program in sight.
-/
import Derived.WalkKit
import Derived.BigQuiet
import Derived.Deep.QuietTactic
import Derived.Deep.AppendLies
namespace Go.Proofs.YtlgogflhjpcmlaaDoor
open Go.RowKit

def HP : Type := (Nat → Option Obj) → Prop
theorem hid {p : Prop} (h : p) : Hid p := h

def emp : HP := fun h => ∀ k, h k = none
def blk (b : Nat) (o : Obj) : HP := fun h => ∀ k, h k = if k = b then some o else none
def star (A B : HP) : HP := fun h => ∃ h1 h2, A h1 ∧ B h2 ∧ (∀ k, h1 k = none ∨ h2 k = none) ∧ ∀ k, h k = (h1 k).or (h2 k)
def pur (p : Prop) : HP := fun h => p ∧ ∀ k, h k = none
def exi {α : Type} (A : α → HP) : HP := fun h => ∃ x, A x h
/-- All the blocks of an elder world, as they were. -/
def old (W : World) : HP := fun h => ∀ k, h k = W.heap[k]?
def stars : List HP → HP
  | [] => emp
  | A :: L => star A (stars L)

theorem emp_star {A : HP} {h : Nat → Option Obj} (hA : A h) : star A emp h :=
  ⟨h, fun _ => none, hA, fun _ => rfl, fun _ => .inr rfl, fun k => by cases h k <;> rfl⟩
theorem star_comm {A B : HP} {h : Nat → Option Obj} (x : star A B h) : star B A h := by
  obtain ⟨h1, h2, a, b, d, e⟩ := x
  refine ⟨h2, h1, b, a, fun k => (d k).symm, fun k => ?_⟩
  rw [e k]
  rcases d k with q | q <;> rw [q] <;> simp
theorem star_assoc {A B C : HP} {h : Nat → Option Obj} (x : star (star A B) C h) : star A (star B C) h := by
  obtain ⟨h12, h3, ⟨h1, h2, a, b, d, e⟩, c, d', e'⟩ := x
  have n1 : ∀ k, h1 k = none ∨ h3 k = none := fun k => by
    rcases d' k with q | q
    · left
      rw [e k] at q
      cases hh : h1 k <;> simp [hh] at q ⊢
    · exact .inr q
  have n2 : ∀ k, h2 k = none ∨ h3 k = none := fun k => by
    rcases d' k with q | q
    · left
      rw [e k] at q
      cases hh : h1 k <;> simp [hh] at q ⊢
      exact q
    · exact .inr q
  refine ⟨h1, fun k => (h2 k).or (h3 k), a, ⟨h2, h3, b, c, n2, fun _ => rfl⟩, fun k => ?_, fun k => ?_⟩
  · rcases d k with q | q
    · exact .inl q
    · rcases n1 k with r | r
      · exact .inl r
      · exact .inr (by simp [q, r])
  · rw [e' k, e k, Option.or_assoc]
theorem star_mono {A A' B B' : HP} {h : Nat → Option Obj} (f : ∀ h, A h → A' h) (g : ∀ h, B h → B' h) (x : star A B h) : star A' B' h := by
  obtain ⟨h1, h2, a, b, d, e⟩ := x
  exact ⟨h1, h2, f _ a, g _ b, d, e⟩
theorem star_assoc' {A B C : HP} {h : Nat → Option Obj} (x : star A (star B C) h) : star (star A B) C h :=
  star_comm (star_mono (fun _ q => q) (fun _ => star_comm) (star_assoc (star_mono (fun _ => star_comm) (fun _ q => q) (star_comm x))) |> star_mono (fun _ q => q) (fun _ q => q))
theorem star_left {A B C : HP} {h : Nat → Option Obj} (x : star A (star B C) h) : star B (star A C) h :=
  star_assoc (star_mono (fun _ => star_comm) (fun _ q => q) (star_assoc' x))
theorem star_pur {p : Prop} {A : HP} {h : Nat → Option Obj} (hp : p) (x : A h) : star (pur p) A h :=
  ⟨fun _ => none, h, ⟨hp, fun _ => rfl⟩, x, fun _ => .inl rfl, fun _ => by simp⟩
theorem pur_star {p : Prop} {A : HP} {h : Nat → Option Obj} (x : star (pur p) A h) : p ∧ A h := by
  obtain ⟨h1, h2, ⟨hp, n⟩, b, _, e⟩ := x
  refine ⟨hp, ?_⟩
  have : h = h2 := funext fun k => by rw [e k, n k]; simp
  rw [this]; exact b
theorem emp_left {A : HP} {h : Nat → Option Obj} (x : star emp A h) : A h := by
  obtain ⟨h1, h2, n, b, _, e⟩ := x
  have : h = h2 := funext fun k => by rw [e k, n k]; simp
  rw [this]; exact b

theorem stars_append {L M : List HP} {h : Nat → Option Obj} (x : star (stars L) (stars M) h) : stars (L ++ M) h := by
  induction L generalizing h with
  | nil => exact emp_left x
  | cons A L ih => exact star_mono (fun _ q => q) (fun _ q => ih q) (star_assoc x)
theorem stars_split {L M : List HP} {h : Nat → Option Obj} (x : stars (L ++ M) h) : star (stars L) (stars M) h := by
  induction L generalizing h with
  | nil => exact star_comm (emp_star x)
  | cons A L ih => exact star_assoc' (star_mono (fun _ q => q) (fun _ q => ih q) x)

/-- The heap of w holds L, part by part; its streams are W's. -/
structure Sat (W w : World) (L : List HP) : Prop where
  os : w.os = W.os
  tape : w.tape = W.tape
  output : w.output = W.output
  size : W.heap.size ≤ w.heap.size
  heap : ∃ h, stars L h ∧ ∀ k o, h k = some o → w.heap[k]? = some o

section
variable {W w : World} {A B C D E F G : HP} {L : List HP}

theorem Sat.imp {M : List HP} (s : Sat W w L) (f : ∀ h, stars L h → stars M h) : Sat W w M :=
  ⟨s.os, s.tape, s.output, s.size, let ⟨h, a, b⟩ := s.heap; ⟨h, f h a, b⟩⟩
theorem Sat.head (s : Sat W w (A :: L)) (f : ∀ h, A h → B h) : Sat W w (B :: L) := s.imp fun _ => star_mono f fun _ q => q
theorem Sat.swap (s : Sat W w (A :: B :: L)) : Sat W w (B :: A :: L) := s.imp fun _ => star_left
theorem under {A : HP} {L M : List HP} (f : ∀ h, stars L h → stars M h) : ∀ h, stars (A :: L) h → stars (A :: M) h := fun _ => star_mono (fun _ q => q) f
theorem sw2 : ∀ h, stars (A :: B :: L) h → stars (B :: A :: L) h := fun _ => star_left
theorem sw3 : ∀ h, stars (A :: B :: C :: L) h → stars (C :: A :: B :: L) h := fun h x => sw2 h (under sw2 h x)
theorem sw4 : ∀ h, stars (A :: B :: C :: D :: L) h → stars (D :: A :: B :: C :: L) h := fun h x => sw2 h (under sw3 h x)
theorem sw5 : ∀ h, stars (A :: B :: C :: D :: E :: L) h → stars (E :: A :: B :: C :: D :: L) h := fun h x => sw2 h (under sw4 h x)
theorem sw6 : ∀ h, stars (A :: B :: C :: D :: E :: F :: L) h → stars (F :: A :: B :: C :: D :: E :: L) h := fun h x => sw2 h (under sw5 h x)
theorem un3 : ∀ h, stars (C :: A :: B :: L) h → stars (A :: B :: C :: L) h := fun h x => under sw2 h (sw2 h x)
theorem un4 : ∀ h, stars (D :: A :: B :: C :: L) h → stars (A :: B :: C :: D :: L) h := fun h x => under un3 h (sw2 h x)
theorem un5 : ∀ h, stars (E :: A :: B :: C :: D :: L) h → stars (A :: B :: C :: D :: E :: L) h := fun h x => under un4 h (sw2 h x)
theorem un6 : ∀ h, stars (F :: A :: B :: C :: D :: E :: L) h → stars (A :: B :: C :: D :: E :: F :: L) h := fun h x => under un5 h (sw2 h x)
theorem Sat.rot3 (s : Sat W w (A :: B :: C :: L)) : Sat W w (C :: A :: B :: L) := s.imp sw3
theorem Sat.rot4 (s : Sat W w (A :: B :: C :: D :: L)) : Sat W w (D :: A :: B :: C :: L) := s.imp sw4
theorem Sat.rot5 (s : Sat W w (A :: B :: C :: D :: E :: L)) : Sat W w (E :: A :: B :: C :: D :: L) := s.imp sw5
theorem Sat.rot6 (s : Sat W w (A :: B :: C :: D :: E :: F :: L)) : Sat W w (F :: A :: B :: C :: D :: E :: L) := s.imp sw6
theorem Sat.unrot3 (s : Sat W w (C :: A :: B :: L)) : Sat W w (A :: B :: C :: L) := s.imp un3
theorem Sat.unrot4 (s : Sat W w (D :: A :: B :: C :: L)) : Sat W w (A :: B :: C :: D :: L) := s.imp un4
theorem Sat.unrot5 (s : Sat W w (E :: A :: B :: C :: D :: L)) : Sat W w (A :: B :: C :: D :: E :: L) := s.imp un5
theorem Sat.unrot6 (s : Sat W w (F :: A :: B :: C :: D :: E :: L)) : Sat W w (A :: B :: C :: D :: E :: F :: L) := s.imp un6
theorem Sat.drop (s : Sat W w (A :: L)) : Sat W w L := by
  obtain ⟨h, ⟨h1, h2, _, b, d, e⟩, i⟩ := s.heap
  refine ⟨s.os, s.tape, s.output, s.size, h2, b, fun k o ho => i k o ?_⟩
  rw [e k]
  rcases d k with q | q
  · simp [q, ho]
  · simp [q] at ho
theorem Sat.cut (s : Sat W w (star A B :: L)) : Sat W w (A :: B :: L) := s.imp fun _ => star_assoc
theorem Sat.join (s : Sat W w (A :: B :: L)) : Sat W w (star A B :: L) := s.imp fun _ => star_assoc'
theorem Sat.pur {p : Prop} (s : Sat W w (pur p :: L)) : p ∧ Sat W w L := by
  obtain ⟨h, x, i⟩ := s.heap
  exact ⟨(pur_star x).1, s.os, s.tape, s.output, s.size, h, (pur_star x).2, i⟩
theorem Sat.exi {α : Type} {A : α → HP} (s : Sat W w (exi A :: L)) : ∃ x, Sat W w (A x :: L) := by
  obtain ⟨h, ⟨h1, h2, ⟨x, a⟩, b, d, e⟩, i⟩ := s.heap
  exact ⟨x, s.os, s.tape, s.output, s.size, h, ⟨h1, h2, a, b, d, e⟩, i⟩
theorem Sat.toExi {α : Type} {A : α → HP} (x : α) (s : Sat W w (A x :: L)) : Sat W w (Go.Proofs.YtlgogflhjpcmlaaDoor.exi A :: L) := s.head fun _ q => ⟨x, q⟩
theorem Sat.addEmp (s : Sat W w L) : Sat W w (emp :: L) := s.imp fun _ q => star_comm (emp_star q)
theorem Sat.toPur {p : Prop} (hp : p) (s : Sat W w L) : Sat W w (Go.Proofs.YtlgogflhjpcmlaaDoor.pur p :: L) := s.imp fun _ q => star_pur hp q

theorem Sat.start (W : World) : Sat W W [old W] := ⟨rfl, rfl, rfl, Nat.le_refl _, fun k => W.heap[k]?, emp_star fun _ => rfl, fun _ _ h => h⟩
theorem Sat.drew (s : Sat W w L) : Sat W w.drew L := ⟨s.os, s.tape, s.output, s.size, s.heap⟩
theorem Sat.drewN (s : Sat W w L) (n : Nat) : Sat W (w.drewN n) L := ⟨s.os, s.tape, s.output, s.size, s.heap⟩

theorem Sat.quiet {w' : World} (s : Sat W w L) (h : ∃ m, w' = w.drewN m) : Sat W w' L := by obtain ⟨m, rfl⟩ := h; exact s.drewN m

/-- What is held lies in blocks that are there. -/
theorem Sat.alloc (s : Sat W w L) (o : Obj) : Sat W (w.alloc o) (blk w.heap.size o :: L) := by
  obtain ⟨h, a, i⟩ := s.heap
  have lt : ∀ k o, h k = some o → k < w.heap.size := fun k o ho => by
    have := i k o ho
    rcases Nat.lt_or_ge k w.heap.size with q | q
    · exact q
    · rw [Array.getElem?_eq_none q] at this; cases this
  refine ⟨s.os, s.tape, s.output, ?_, fun k => if k = w.heap.size then some o else h k, ⟨fun k => if k = w.heap.size then some o else none, h, fun _ => rfl, a, fun k => ?_, fun k => ?_⟩, fun k o' ho => ?_⟩
  · show _ ≤ (w.heap.push o).size; rw [Array.size_push]; have := s.size; omega
  · by_cases e : k = w.heap.size
    · right
      cases hh : h k with
      | none => rfl
      | some o' => have := lt k o' hh; omega
    · left; simp [e]
  · by_cases e : k = w.heap.size <;> simp [e]
  · show (w.heap.push o)[k]? = _
    by_cases e : k = w.heap.size
    · simp only [e, if_true] at ho; rw [e, Array.getElem?_push_size, ho]
    · simp only [e, if_false] at ho
      rw [Array.getElem?_push, if_neg e]; exact i k o' ho
theorem Sat.alloc' (s : Sat W w L) (o : Obj) : Sat W (w.alloc o) L := (s.alloc o).drop

theorem Sat.get {b : Nat} {o : Obj} (s : Sat W w (blk b o :: L)) : w.heap[b]? = some o := by
  obtain ⟨h, ⟨h1, h2, a, _, _, e⟩, i⟩ := s.heap
  exact i b o (by rw [e b, a b]; simp)
theorem Sat.lt {b : Nat} {o : Obj} (s : Sat W w (blk b o :: L)) : b < w.heap.size := by
  have := s.get
  rcases Nat.lt_or_ge b w.heap.size with q | q
  · exact q
  · rw [Array.getElem?_eq_none q] at this; cases this
theorem Sat.cell {b : Nat} {c : Array Value} {t : TypeId} {fr : Nat × Nat} (s : Sat W w (blk b (.cells c t fr) :: L)) (i : Nat) : w.cell? ⟨b, i, none⟩ = c[i]? := by
  simp [World.cell?, s.get]
theorem Sat.free {b : Nat} {c : Array Value} {t : TypeId} (s : Sat W w (blk b (.cells c t (0, 0)) :: L)) (i : Nat) : w.frozen? ⟨b, i, none⟩ = false := by
  simp [World.frozen?, s.get]
theorem Sat.ne {b b' : Nat} {o o' : Obj} (s : Sat W w (blk b o :: blk b' o' :: L)) : b ≠ b' := by
  obtain ⟨h, ⟨h1, h2, a, ⟨h3, h4, a', _, _, e'⟩, d, e⟩, i⟩ := s.heap
  intro q
  rcases d b with x | x
  · rw [a b] at x; simp at x
  · rw [e' b, a' b, q] at x; simp at x

/-- One held block is turned; all else that is held stays. -/
theorem Sat.turn {w' : World} {b : Nat} {o o' : Obj} (s : Sat W w (blk b o :: L)) (h1 : w'.os = w.os) (h2 : w'.tape = w.tape) (h3 : w'.output = w.output) (h4 : w.heap.size ≤ w'.heap.size)
    (h5 : w'.heap[b]? = some o') (h6 : ∀ k, k < w.heap.size → k ≠ b → w'.heap[k]? = w.heap[k]?) : Sat W w' (blk b o' :: L) := by
  obtain ⟨h, ⟨g1, g2, a, c, d, e⟩, i⟩ := s.heap
  have g2b : g2 b = none := by
    rcases d b with x | x
    · rw [a b] at x; simp at x
    · exact x
  refine ⟨h1.trans s.os, h2.trans s.tape, h3.trans s.output, Nat.le_trans s.size h4, fun k => if k = b then some o' else h k, ⟨fun k => if k = b then some o' else none, g2, fun _ => rfl, c, fun k => ?_, fun k => ?_⟩, fun k p hp => ?_⟩
  · by_cases q : k = b
    · right; rw [q]; exact g2b
    · left; simp [q]
  · by_cases q : k = b
    · simp [q]
    · simp only [q, if_false, Option.none_or]; rw [e k, a k]; simp [q]
  · by_cases q : k = b
    · simp only [q, if_true] at hp; rw [q, h5, hp]
    · simp only [q, if_false] at hp
      have := i k p hp
      rw [h6 k ?_ q, this]
      rcases Nat.lt_or_ge k w.heap.size with r | r
      · exact r
      · rw [Array.getElem?_eq_none r] at this; cases this
theorem heap_setCell (w : World) (b i : Nat) (v : Value) (c : Array Value) (t : TypeId) (fr : Nat × Nat) (h : w.heap[b]? = some (.cells c t fr)) :
    (w.setCell ⟨b, i, none⟩ v).heap[b]? = some (.cells (c.setIfInBounds i v) t fr) := by
  simp [World.setCell, Array.getElem?_modify, h]
theorem Sat.set {b : Nat} {c : Array Value} {t : TypeId} {fr : Nat × Nat} (s : Sat W w (blk b (.cells c t fr) :: L)) (i : Nat) (v : Value) :
    Sat W (w.setCell ⟨b, i, none⟩ v) (blk b (.cells (c.setIfInBounds i v) t fr) :: L) :=
  s.turn rfl rfl rfl (by simp [World.setCell]) (heap_setCell w b i v c t fr s.get) fun k _ hk => Below.heap_setCell w _ _ _ hk

/-- What the law asks at its end of the memory that was there: nothing has turned. -/
theorem Sat.below (s : Sat W w (old W :: L)) : Below W.heap.size W w := by
  obtain ⟨h, ⟨h1, h2, a, _, _, e⟩, i⟩ := s.heap
  refine ⟨s.os, s.tape, s.output, s.size, fun k hk => ?_⟩
  obtain ⟨o, ho⟩ : ∃ o, W.heap[k]? = some o := ⟨_, Array.getElem?_eq_getElem hk⟩
  rw [ho]
  exact i k o (by rw [e k, a k, ho]; simp)
theorem Sat.oldCell (s : Sat W w (old W :: L)) {a : Addr} {v : Value} (h : W.cell? a = some v) : w.cell? a = some v := by
  rw [s.below.cell (World.block_lt_of_cell? W a h), h]

theorem stars_parts : ∀ (L : List HP) (h : Nat → Option Obj), stars L h → ∃ f : Nat → Nat → Option Obj, (∀ (i : Nat) (A : HP), L[i]? = some A → A (f i)) ∧
    (∀ i j, i < L.length → j < L.length → i ≠ j → ∀ k, f i k = none ∨ f j k = none) ∧ ∀ i, i < L.length → ∀ k o, f i k = some o → h k = some o
  | [], _, _ => ⟨fun _ _ => none, fun i A hA => by simp at hA, fun i j hi => by simp at hi, fun i hi => by simp at hi⟩
  | A :: L, h, ⟨h1, h2, a, b, d, e⟩ => by
    obtain ⟨f, f1, f2, f3⟩ := stars_parts L h2 b
    refine ⟨fun i => match i with | 0 => h1 | i + 1 => f i, ?_, ?_, ?_⟩
    · intro i B hB
      cases i with
      | zero => simp only [List.getElem?_cons_zero, Option.some.injEq] at hB; subst hB; exact a
      | succ i => exact f1 i B (by simpa using hB)
    · intro i j hi hj hij k
      cases i with
      | zero =>
        cases j with
        | zero => exact absurd rfl hij
        | succ j =>
          rcases d k with q | q
          · exact .inl q
          · right
            cases hf : f j k with
            | none => exact hf
            | some o => rw [f3 j (by simpa using hj) k o hf] at q; cases q
      | succ i =>
        cases j with
        | zero =>
          rcases d k with q | q
          · exact .inr q
          · left
            cases hf : f i k with
            | none => exact hf
            | some o => rw [f3 i (by simpa using hi) k o hf] at q; cases q
        | succ j => exact f2 i j (by simpa using hi) (by simpa using hj) (by omega) k
    · intro i hi k o ho
      rw [e k]
      cases i with
      | zero => rw [show h1 k = some o from ho]; rfl
      | succ i =>
        have := f3 i (by simpa using hi) k o ho
        rcases d k with q | q
        · rw [q, this]; rfl
        · rw [this] at q; cases q
theorem parts_stars : ∀ (L : List HP) (hp : Nat → Option Obj) (f : Nat → Nat → Option Obj), (∀ (i : Nat) (A : HP), L[i]? = some A → A (f i)) →
    (∀ i j, i < L.length → j < L.length → i ≠ j → ∀ k, f i k = none ∨ f j k = none) → (∀ i, i < L.length → ∀ k o, f i k = some o → hp k = some o) → ∃ h, stars L h ∧ (∀ k o, h k = some o → hp k = some o) ∧ ∀ k, (∀ i, i < L.length → f i k = none) → h k = none
  | [], _, _, _, _, _ => ⟨fun _ => none, fun _ => rfl, fun k o h => by simp at h, fun _ _ => rfl⟩
  | A :: L, hp, f, f1, f2, f3 => by
    obtain ⟨h, a, b, c⟩ := parts_stars L hp (fun i => f (i + 1)) (fun i B hB => f1 (i + 1) B (by simpa using hB))
      (fun i j hi hj hij k => f2 (i + 1) (j + 1) (by simpa using hi) (by simpa using hj) (by omega) k) (fun i hi => f3 (i + 1) (by simpa using hi))
    refine ⟨fun k => (f 0 k).or (h k), ⟨f 0, h, f1 0 A rfl, a, fun k => ?_, fun _ => rfl⟩, fun k o ho => ?_, fun k hk => ?_⟩
    · cases h0 : f 0 k with
      | none => exact .inl rfl
      | some o =>
        refine .inr (c k fun i hi => ?_)
        rcases f2 0 (i + 1) (by simp) (by simpa using hi) (by omega) k with q | q
        · rw [h0] at q; cases q
        · exact q
    · cases h0 : f 0 k with
      | none => simp only [h0, Option.none_or] at ho; exact b k o ho
      | some o' => simp only [h0, Option.some_or, Option.some.injEq] at ho; subst ho; exact f3 0 (by simp) k _ h0
    · show (f 0 k).or (h k) = none
      rw [hk 0 (by simp), c k fun i hi => hk (i + 1) (by simpa using hi)]; rfl
def selB : List Nat → Nat → Bool
  | [], _ => true
  | i :: p, n => decide (i < n) && !p.contains i && selB p n
theorem selB_spec : ∀ (p : List Nat) (n : Nat), selB p n = true → p.Nodup ∧ ∀ i ∈ p, i < n
  | [], _, _ => ⟨List.nodup_nil, fun i h => by simp at h⟩
  | i :: p, n, h => by
    simp only [selB, Bool.and_eq_true, decide_eq_true_eq, Bool.not_eq_true', List.contains_eq_mem, decide_eq_false_iff_not] at h
    obtain ⟨⟨h1, h2⟩, h3⟩ := h
    have := selB_spec p n h3
    refine ⟨List.nodup_cons.2 ⟨h2, this.1⟩, fun j hj => ?_⟩
    rcases List.mem_cons.1 hj with rfl | hj
    · exact h1
    · exact this.2 j hj
/-- Some of the parts, in whatever order. -/
theorem Sat.sel (s : Sat W w L) (p : List Nat) (hb : selB p L.length = true := by rfl) : Sat W w (p.map fun i => L.getD i emp) := by
  have h := selB_spec p L.length hb
  obtain ⟨g, a, b⟩ := s.heap
  obtain ⟨f, f1, f2, f3⟩ := stars_parts L g a
  obtain ⟨h', a', b', _⟩ := parts_stars (p.map fun i => L.getD i emp) (fun k => w.heap[k]?) (fun i => f (p.getD i 0))
    (fun i A hA => by
      rw [List.getElem?_map] at hA
      cases hp : p[i]? with
      | none => rw [hp] at hA; cases hA
      | some j =>
        rw [hp] at hA
        simp only [Option.map_some, Option.some.injEq] at hA
        have hj := h.2 j (List.mem_of_getElem? hp)
        have : p.getD i 0 = j := by rw [List.getD_eq_getElem?_getD, hp]; rfl
        rw [this]
        refine f1 j A ?_
        rw [← hA, List.getD_eq_getElem?_getD, List.getElem?_eq_getElem hj]; rfl)
    (fun i j hi hj hij k => by
      rw [List.length_map] at hi hj
      have ei : p.getD i 0 = p[i] := by simp [hi]
      have ej : p.getD j 0 = p[j] := by simp [hj]
      show f (p.getD i 0) k = none ∨ f (p.getD j 0) k = none
      rw [ei, ej]
      exact f2 _ _ (h.2 _ (List.getElem_mem _)) (h.2 _ (List.getElem_mem _)) (fun q => hij ((List.getElem_inj h.1).1 q)) k)
    (fun i hi k o ho => by
      rw [List.length_map] at hi
      have ei : p.getD i 0 = p[i] := by simp [hi]
      refine b k o (f3 (p.getD i 0) (by rw [ei]; exact h.2 _ (List.getElem_mem _)) k o ho))
  exact ⟨s.os, s.tape, s.output, s.size, h', a', b'⟩

/-- A bundle: some x, a plain fact of it, and parts. -/
def bun {α : Type} (p : α → Prop) (A : α → List HP) : HP := fun h => ∃ x, p x ∧ stars (A x) h
theorem Sat.unbun {α : Type} {p : α → Prop} {A : α → List HP} (s : Sat W w (bun p A :: L)) : ∃ x, p x ∧ Sat W w (A x ++ L) := by
  obtain ⟨h, ⟨h1, h2, ⟨x, hp, a⟩, b, d, e⟩, i⟩ := s.heap
  exact ⟨x, hp, s.os, s.tape, s.output, s.size, h, stars_append ⟨h1, h2, a, b, d, e⟩, i⟩
theorem Sat.mkbun {α : Type} {p : α → Prop} {A : α → List HP} (x : α) (hp : p x) (s : Sat W w (A x ++ L)) : Sat W w (bun p A :: L) :=
  s.imp fun _ q => star_mono (fun _ r => ⟨x, hp, r⟩) (fun _ r => r) (stars_split q)

end
#print axioms Sat.turn
end Go.Proofs.YtlgogflhjpcmlaaDoor
