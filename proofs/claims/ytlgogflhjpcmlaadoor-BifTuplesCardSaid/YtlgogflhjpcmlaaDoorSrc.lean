/-
  READING: 'Rd w a vs': behind the address a lie the cells vs. append from such a source, whatever it is.
-/
import Derived.Test.YtlgogflhjpcmlaaDoorRow
namespace Go.Proofs.YtlgogflhjpcmlaaDoor
open Go.RowKit

def Rd (w : World) (a : Option Addr) (vs : List Value) : Prop := ∀ j u, vs[j]? = some u → ∃ g off, a = some ⟨g, off, none⟩ ∧ w.cell? ⟨g, off + j, none⟩ = some u
theorem Rd.cells {w : World} {a : Option Addr} {vs : List Value} (h : Rd w a vs) (hn : 0 < vs.length) : ∃ g off, a = some ⟨g, off, none⟩ ∧ ∀ j, j < vs.length → w.cell? ⟨g, off + j, none⟩ = vs[j]? := by
  obtain ⟨g, off, ha, _⟩ := h 0 vs[0] (List.getElem?_eq_getElem hn)
  refine ⟨g, off, ha, fun j hj => ?_⟩
  obtain ⟨g', off', ha', hc⟩ := h j vs[j] (List.getElem?_eq_getElem hj)
  rw [ha] at ha'
  simp only [Option.some.injEq, Addr.mk.injEq, and_true] at ha'
  obtain ⟨rfl, rfl⟩ := ha'
  rw [hc, List.getElem?_eq_getElem hj]
theorem Rd.drewN {w : World} {a : Option Addr} {vs : List Value} (h : Rd w a vs) (n : Nat) : Rd (w.drewN n) a vs := h
theorem Rd.drew {w : World} {a : Option Addr} {vs : List Value} (h : Rd w a vs) : Rd w.drew a vs := h
theorem Rd.nil (w : World) (a : Option Addr) : Rd w a [] := fun j u h => by simp at h
theorem Rd.of_cells {w : World} {g off : Nat} {vs : List Value} (h : ∀ j, j < vs.length → w.cell? ⟨g, off + j, none⟩ = vs[j]?) : Rd w (some ⟨g, off, none⟩) vs := fun j u hj => by
  have : j < vs.length := by
    rcases Nat.lt_or_ge j vs.length with q | q
    · exact q
    · rw [List.getElem?_eq_none q] at hj; cases hj
  exact ⟨g, off, rfl, by rw [h j this, hj]⟩
theorem Sat.rowRd {W w : World} {L : List HP} {e size n c : Nat} {a : Option Addr} {xs : List Value} (s : Sat W w (row e size a n c xs :: L)) : Rd w a xs := by
  have hl := s.rowLen
  rcases s.rowOpen with ⟨_, _, _, rfl, _⟩ | ⟨g, off, cur, rfl, s', h4, h5⟩
  · exact Rd.nil _ _
  · refine Rd.of_cells fun j hj => ?_
    rw [s'.cell, ← h5, List.getElem?_take_of_lt (by omega), List.getElem?_drop]
    simp
/-- A row that was just made reads as what it was made of. -/
theorem newsRd (w : World) (cs : List Value) (e : TypeId) : Rd (w.alloc (.cells cs.toArray e)) (some ⟨w.heap.size, 0, none⟩) cs := fun j u hj => by
  refine ⟨w.heap.size, 0, rfl, ?_⟩
  unfold World.cell?
  rw [heap_alloc_new]
  show (if _ then none else cs.toArray[0 + j]?) = some u
  rw [Nat.zero_add]
  simpa using hj
/-- What lies in elder memory reads in every later world. -/
theorem Rd.old {W w : World} {L : List HP} {a : Option Addr} {vs : List Value} (h : Rd W a vs) (s : Sat W w (old W :: L)) : Rd w a vs := fun j u hj => by
  obtain ⟨g, off, ha, hc⟩ := h j u hj
  exact ⟨g, off, ha, s.oldCell hc⟩

section
variable {W w : World} {L : List HP} {e size n c : Nat} {a : Option Addr} {xs : List Value} {P : Program} {t bytes : Nat}

/-- append from a source of elements that lie each in one cell -/
theorem run_append_src (E : Elem P t e 1 bytes) (ty : TypeId) (s : Sat W w (row e 1 a n c xs :: L))
    (sp : Option Addr) (cc : Nat) (news : List Value) (hnews : Rd w sp news) (h1 : ∀ u ∈ news, u.oneCell' = true)
    (h63 : n + news.length ≤ maxLen) (hbytes : (n + news.length) * bytes ≤ 140737488355328) :
    ∃ a' c' w', (Builtin.append_ #[t, t] ty #[.slice a n c, .slice sp news.length cc]).run P w = .ok (.slice a' (n + news.length) c') w' ∧ Sat W w' (row e 1 a' (n + news.length) c' (xs ++ news) :: L) ∧
      (a' = none ↔ a = none ∧ news.length = 0) ∧ w.heap.size ≤ w'.heap.size := by
  cases sp with
  | some ad =>
    refine run_append_row E ty s ad news.length cc news (by omega) (fun j u hj => ?_) h1 h63 hbytes
    obtain ⟨g, off, ha, hc⟩ := hnews j u hj
    simp only [Option.some.injEq] at ha
    subst ha
    rw [Addr.add_lit]; exact hc
  | none =>
    have hn : news = [] := by
      cases news with
      | nil => rfl
      | cons v l => obtain ⟨_, _, ha, _⟩ := hnews 0 v rfl; cases ha
    subst hn
    obtain ⟨i, z, hi, hz, hsz, _, hzs⟩ := E.info
    have ht := E.under
    have hl := s.rowLen
    refine ⟨a, c, w, ?_, by simpa using s, by simp, Nat.le_refl _⟩
    cases a with
    | none =>
      obtain ⟨rfl, rfl, rfl⟩ := s.rowNone
      simp [Builtin.append_, run_underlying ht, sizeOf, typeInfo, hi, Builtin.lenOf, Builtin.firstCells]
    | some ad => simp [Builtin.append_, run_underlying ht, sizeOf, typeInfo, hi, Builtin.lenOf, Builtin.firstCells, storeCells, hl.2.1]

theorem wpList_append_src {ops : Array Oper} {rest : List Oper} {o : Oper} {ac : Act} {Q : Exit → Act → World → Prop} (hgd : o.guard = none) (so xo : Operand)
    (ho : o.op = .call { callee := .builtin .append, args := #[so, xo], argTypes := #[t, t] }) (E : Elem P t e 1 bytes)
    (hs : ac.eval so = .slice a n c) (s : Sat W w (row e 1 a n c xs :: L))
    {sp : Option Addr} {m cc : Nat} (news : List Value) (hx : ac.eval xo = .slice sp m cc) (hm : m = news.length) (hnews : Rd w sp news) (h1 : ∀ u ∈ news, u.oneCell' = true)
    (h63 : n + m ≤ maxLen) (hbytes : (n + m) * bytes ≤ 140737488355328)
    (h : ∀ a' c' w', Sat W w' (row e 1 a' (n + m) c' (xs ++ news) :: L) → (a' = none ↔ a = none ∧ m = 0) → w.heap.size ≤ w'.heap.size → wpList P ops Q rest (ac.put o.dst (.slice a' (n + m) c')) w') : wpList P ops Q (o :: rest) ac w := by
  subst hm
  refine wpList_plain hgd fun K hK => ?_
  obtain ⟨a', c', w', hr, h2, h3, h4⟩ := run_append_src E o.type s sp cc news hnews h1 h63 hbytes
  unfold Oper.wp execOp
  simp only [ho, resolve, invoke, builtin, Sem.run_bind, Sem.run_pure, Result.andThen_ok, List.map_toArray, List.map_cons, List.map_nil, hs, hx, hr]
  exact hK _ _ (h a' c' w' h2 h3 h4)
/-- append of one element of so many cells, made just ahead of it: its three forms -/
theorem wp_pushN {o : Oper} {ac : Act} {K : Act → World → Prop} {Q : Exit → Act → World → Prop} (so xo : Operand)
    (ho : o.op = .call { callee := .builtin .append, args := #[so, xo], argTypes := #[t, t] }) (E : Elem P t e size bytes)
    (hs : ac.eval so = .slice a n c) (s : Sat W w (row e size a n c xs :: L)) (vs : List Value) (hl : vs.length = size)
    {k : Nat} (hx : ac.eval xo = .slice (some ⟨k, 0, none⟩) 1 1) (hk : k = w.heap.size) (h1 : ∀ v ∈ vs, v.oneCell' = true) (h63 : n + 1 ≤ maxLen) (hbytes : (n + 1) * bytes ≤ 140737488355328)
    (h : ∀ a' c' w', Sat W w' (row e size a' (n + 1) c' (xs ++ vs) :: L) → a' ≠ none → w.heap.size ≤ w'.heap.size → K (ac.put o.dst (.slice a' (n + 1) c')) w') :
    o.wp P ac (w.alloc (.cells vs.toArray e)) K Q := by
  subst hk
  refine wp_append_row so xo ho E hs (s.alloc' _) _ 1 1 vs hx (by omega) (fun j u hj => ?_) h1 h63 hbytes fun a' c' w' s' hn hz =>
    h a' c' w' s' (fun q => by have := hn.1 q; omega) (Nat.le_trans (by simp) hz)
  rw [Addr.add_lit]
  obtain ⟨g, off, hg, hc⟩ := newsRd w vs e j u hj
  simp only [Option.some.injEq, Addr.mk.injEq, and_true] at hg
  obtain ⟨rfl, rfl⟩ := hg
  exact hc
theorem wpList_pushN {ops : Array Oper} {rest : List Oper} {o : Oper} {ac : Act} {Q : Exit → Act → World → Prop} (hgd : o.guard = none) (so xo : Operand)
    (ho : o.op = .call { callee := .builtin .append, args := #[so, xo], argTypes := #[t, t] }) (E : Elem P t e size bytes)
    (hs : ac.eval so = .slice a n c) (s : Sat W w (row e size a n c xs :: L)) (vs : List Value) (hl : vs.length = size)
    {k : Nat} (hx : ac.eval xo = .slice (some ⟨k, 0, none⟩) 1 1) (hk : k = w.heap.size) (h1 : ∀ v ∈ vs, v.oneCell' = true) (h63 : n + 1 ≤ maxLen) (hbytes : (n + 1) * bytes ≤ 140737488355328)
    (h : ∀ a' c' w', Sat W w' (row e size a' (n + 1) c' (xs ++ vs) :: L) → a' ≠ none → w.heap.size ≤ w'.heap.size → wpList P ops Q rest (ac.put o.dst (.slice a' (n + 1) c')) w') :
    wpList P ops Q (o :: rest) ac (w.alloc (.cells vs.toArray e)) :=
  wpList_plain hgd fun _ hK => wp_pushN so xo ho E hs s vs hl hx hk h1 h63 hbytes fun a' c' w' h2 h3 h4 => hK _ _ (h a' c' w' h2 h3 h4)
theorem step_pushN {ops : Array Oper} {o : Oper} {ac : Act} {K : Act → World → Prop} {Q : Exit → Act → World → Prop} {E' : Prop} (hgd : o.guard = none) (so xo : Operand)
    (ho : o.op = .call { callee := .builtin .append, args := #[so, xo], argTypes := #[t, t] }) (E : Elem P t e size bytes)
    (hs : ac.eval so = .slice a n c) (s : Sat W w (row e size a n c xs :: L)) (vs : List Value) (hl : vs.length = size)
    {k : Nat} (hx : ac.eval xo = .slice (some ⟨k, 0, none⟩) 1 1) (hk : k = w.heap.size) (h1 : ∀ v ∈ vs, v.oneCell' = true) (h63 : n + 1 ≤ maxLen) (hbytes : (n + 1) * bytes ≤ 140737488355328)
    (h : ∀ a' c' w', Sat W w' (row e size a' (n + 1) c' (xs ++ vs) :: L) → a' ≠ none → w.heap.size ≤ w'.heap.size → K (ac.put o.dst (.slice a' (n + 1) c')) w') :
    if Region.wanted o (yielded ops ac.tmps) = true then Oper.wp P o ac (w.alloc (.cells vs.toArray e)) K Q else E' := by
  have hw : Region.wanted o (yielded ops ac.tmps) = true := by simp [Region.wanted, hgd]
  rw [if_pos hw]
  exact wp_pushN so xo ho E hs s vs hl hx hk h1 h63 hbytes h
/-- a copy: 'append([]T(nil), x...)' -/
theorem wpList_clone_src {ops : Array Oper} {rest : List Oper} {o : Oper} {ac : Act} {Q : Exit → Act → World → Prop} (hgd : o.guard = none) (so xo : Operand)
    (ho : o.op = .call { callee := .builtin .append, args := #[so, xo], argTypes := #[t, t] }) (E : Elem P t e 1 bytes)
    (hs : ac.eval so = .slice none 0 0) (s : Sat W w L)
    {sp : Option Addr} {m cc : Nat} (news : List Value) (hx : ac.eval xo = .slice sp m cc) (hm : m = news.length) (hnews : Rd w sp news) (h1 : ∀ u ∈ news, u.oneCell' = true)
    (h63 : m ≤ maxLen) (hbytes : m * bytes ≤ 140737488355328)
    (h : ∀ a' c' w', Sat W w' (row e 1 a' m c' news :: L) → (a' = none ↔ m = 0) → w.heap.size ≤ w'.heap.size → wpList P ops Q rest (ac.put o.dst (.slice a' m c')) w') : wpList P ops Q (o :: rest) ac w := by
  refine wpList_append_src hgd so xo ho E hs (s.rowNil (e := e) (size := 1)) news hx hm hnews h1 (by omega) (by simpa using hbytes) fun a' c' w' s' hn hz => ?_
  rw [Nat.zero_add] at s' ⊢
  exact h a' c' w' s' (by simpa using hn) hz
end
/-- A slice of integers that came in, as the guide's shells say it, read as its elements. -/
theorem rd_of_arg {k : IntKind} {w : World} {a : Option Addr} {len cap : Nat} {zs : List Int}
    (h : (a = none ∧ len = 0 ∧ cap = 0 ∧ zs = []) ∨ ∃ x, a = some x ∧ len ≤ cap ∧ cap ≤ maxLen ∧ zs.length = cap ∧ (∀ i, i < zs.length → w.cell? (x.add i) = some (.int k (zs.getD i 0))) ∧ ∀ n ∈ zs, (Lit.int k n).wf = true) :
    ∃ xs : List Int, len = xs.length ∧ len ≤ 9223372036854775807 ∧ len ≤ cap ∧ Rd w a (xs.map (Value.int k)) ∧ ∀ n ∈ xs, (Lit.int k n).wf = true := by
  rcases h with ⟨rfl, rfl, rfl, rfl⟩ | ⟨x, rfl, h1, h2, h3, h4, h5⟩
  · exact ⟨[], rfl, by omega, by omega, Rd.nil _ _, fun n h => by simp at h⟩
  · refine ⟨zs.take len, by simp; omega, by unfold maxLen at h2; omega, h1, fun j u hj => ?_, fun n hn => h5 n (List.mem_of_mem_take hn)⟩
    rw [List.getElem?_map] at hj
    have hjl : j < len := by
      rcases Nat.lt_or_ge j len with q | q
      · exact q
      · rw [List.getElem?_eq_none (by simp; omega)] at hj; cases hj
    rw [List.getElem?_take_of_lt hjl, List.getElem?_eq_getElem (by omega)] at hj
    have h0 := h4 0 (by omega)
    have hx : x.add 0 = x := by simp [Addr.add]
    rw [hx] at h0
    obtain ⟨b, off, spot⟩ := x
    cases spot with
    | some q => simp [World.cell?] at h0; split at h0 <;> simp at h0
    | none =>
      refine ⟨b, off, rfl, ?_⟩
      have := h4 j (by omega)
      rw [Addr.add_lit] at this
      rw [this, ← hj]
      simp [List.getD_eq_getElem?_getD, List.getElem?_eq_getElem (show j < zs.length by omega)]
#print axioms wpList_append_src
end Go.Proofs.YtlgogflhjpcmlaaDoor
