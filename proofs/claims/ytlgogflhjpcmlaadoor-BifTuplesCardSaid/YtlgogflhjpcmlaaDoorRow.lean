/-
  ROWS OF CELLS BEHIND SLICES, in the small separation logic of XSl: 'row e size a n c xs': the slice '.slice a n c' holds xs and owns its block. append, make, copy, stores. No program in sight.
-/
import Derived.Test.YtlgogflhjpcmlaaDoorSl
import Derived.Laws.CopyOwn
namespace Go.Proofs.YtlgogflhjpcmlaaDoor
open Go.RowKit

/-- What append and make ask of a slice type t: its element type e, of so many cells and bytes. -/
structure Elem (P : Program) (t e size bytes : Nat) : Prop where
  under : P.underlying t = some (.slice e)
  info : ∃ i z, P.info? e = some i ∧ i.zero = some z ∧ i.size = size ∧ i.bytes = bytes ∧ z.cells.size = size
  pos : 0 < size

theorem Elem.mk' {P : Program} {t e size bytes : Nat} {z : Value} (h1 : P.underlying t = some (.slice e)) (h2 : (P.info? e).map (fun i => (i.zero, i.size, i.bytes)) = some (some z, size, bytes)) (h3 : z.cells.size = size) (h4 : 0 < size) :
    Elem P t e size bytes := by
  refine ⟨h1, ?_, h4⟩
  cases h : P.info? e with
  | none => rw [h] at h2; cases h2
  | some i =>
    rw [h] at h2
    simp only [Option.map_some, Option.some.injEq, Prod.mk.injEq] at h2
    exact ⟨i, z, rfl, h2.1, h2.2.1, h2.2.2, h3⟩

def row (e size : Nat) (a : Option Addr) (n c : Nat) (xs : List Value) : HP := fun h =>
  xs.length = n * size ∧ n ≤ c ∧ c ≤ maxLen ∧
  ((a = none ∧ c = 0 ∧ emp h) ∨
   ∃ g off cur, a = some ⟨g, off, none⟩ ∧ blk g (.cells cur e (0, 0)) h ∧ off + c * size ≤ cur.size ∧ (cur.toList.drop off).take (n * size) = xs)

section
variable {W w : World} {L : List HP} {e size n c : Nat} {a : Option Addr} {xs : List Value}

theorem Sat.rowNil (s : Sat W w L) : Sat W w (row e size none 0 0 [] :: L) :=
  s.addEmp.head fun _ q => ⟨by simp, Nat.le_refl _, Nat.zero_le _, .inl ⟨rfl, rfl, q⟩⟩
theorem Sat.rowLen (s : Sat W w (row e size a n c xs :: L)) : xs.length = n * size ∧ n ≤ c ∧ c ≤ maxLen := by
  obtain ⟨h, ⟨h1, h2, x, _⟩, _⟩ := s.heap
  exact ⟨x.1, x.2.1, x.2.2.1⟩
theorem Sat.rowOpen (s : Sat W w (row e size a n c xs :: L)) :
    (a = none ∧ c = 0 ∧ n = 0 ∧ xs = [] ∧ Sat W w L) ∨
    ∃ g off cur, a = some ⟨g, off, none⟩ ∧ Sat W w (blk g (.cells cur e (0, 0)) :: L) ∧ off + c * size ≤ cur.size ∧ (cur.toList.drop off).take (n * size) = xs := by
  obtain ⟨h, ⟨h1, h2, ⟨l, p, _, x⟩, y, d, q⟩, i⟩ := s.heap
  rcases x with ⟨r, r', r''⟩ | ⟨g, off, cur, r, x', u, v⟩
  · refine .inl ⟨r, r', by omega, ?_, s.drop⟩
    have : n = 0 := by omega
    subst this
    exact List.eq_nil_of_length_eq_zero (by simpa using l)
  · exact .inr ⟨g, off, cur, r, ⟨s.os, s.tape, s.output, s.size, h, ⟨h1, h2, x', y, d, q⟩, i⟩, u, v⟩
theorem Sat.rowMk {g off : Nat} {cur : Array Value} (s : Sat W w (blk g (.cells cur e (0, 0)) :: L)) (h1 : xs.length = n * size) (h2 : n ≤ c) (h3 : c ≤ maxLen) (h4 : off + c * size ≤ cur.size) (h5 : (cur.toList.drop off).take (n * size) = xs) :
    Sat W w (row e size (some ⟨g, off, none⟩) n c xs :: L) :=
  s.head fun _ q => ⟨h1, h2, h3, .inr ⟨g, off, cur, rfl, q, h4, h5⟩⟩
/-- Where there is an element the slice leads somewhere, and each cell reads as the list says. -/
theorem Sat.rowCells (s : Sat W w (row e size a n c xs :: L)) (hn : 0 < n) : ∃ g off, a = some ⟨g, off, none⟩ ∧ (∀ i, i < n * size → w.cell? ⟨g, off + i, none⟩ = xs[i]?) ∧ (∀ i, w.frozen? ⟨g, i, none⟩ = false) := by
  rcases s.rowOpen with ⟨_, _, h, _⟩ | ⟨g, off, cur, rfl, s', h4, h5⟩
  · omega
  · refine ⟨g, off, rfl, fun i hi => ?_, fun i => s'.free i⟩
    rw [s'.cell, ← h5, List.getElem?_take_of_lt hi, List.getElem?_drop]
    simp
theorem Sat.rowNone (s : Sat W w (row e size none n c xs :: L)) : n = 0 ∧ c = 0 ∧ xs = [] := by
  rcases s.rowOpen with ⟨_, h, h', h'', _⟩ | ⟨g, off, cur, h, _⟩
  · exact ⟨h', h, h''⟩
  · cases h

theorem take_drop_set (cur : List Value) (off m k : Nat) (v : Value) (hk : k < m) (hm : off + m ≤ cur.length) :
    ((cur.set (off + k) v).drop off).take m = ((cur.drop off).take m).set k v := by
  apply List.ext_getElem?
  intro i
  by_cases hi : i < m
  · rw [List.getElem?_take_of_lt hi, List.getElem?_drop, List.getElem?_set, List.getElem?_set, List.getElem?_take_of_lt hi, List.getElem?_drop]
    simp only [List.length_take, List.length_drop]
    by_cases q : k = i
    · subst q
      rw [if_pos rfl, if_pos (by omega), if_pos rfl, if_pos (by omega)]
    · rw [if_neg (by omega), if_neg q]
  · rw [List.getElem?_take_eq_none (by omega), List.getElem?_eq_none (by simp; omega)]

/-- A store at an element's cell. -/
theorem Sat.rowSet {g off : Nat} (s : Sat W w (row e size (some ⟨g, off, none⟩) n c xs :: L)) (k : Nat) (hk : k < n * size) (v : Value) :
    Sat W (w.setCell ⟨g, off + k, none⟩ v) (row e size (some ⟨g, off, none⟩) n c (xs.set k v) :: L) := by
  have hl := s.rowLen
  rcases s.rowOpen with ⟨h, _⟩ | ⟨g', off', cur, h, s', h4, h5⟩
  · cases h
  · simp only [Option.some.injEq, Addr.mk.injEq, and_true] at h
    obtain ⟨rfl, rfl⟩ := h
    refine (s'.set (off + k) v).rowMk (by simp [hl.1]) hl.2.1 hl.2.2 (by simpa using h4) ?_
    have hnc : n * size ≤ c * size := Nat.mul_le_mul_right _ hl.2.1
    rw [Array.toList_setIfInBounds, take_drop_set _ _ _ _ _ hk (by simp; omega), h5]

/-- The first k elements, the capacity kept. -/
theorem Sat.rowTake (s : Sat W w (row e size a n c xs :: L)) (k : Nat) (hk : k ≤ n) : Sat W w (row e size a k c (xs.take (k * size)) :: L) := by
  have hl := s.rowLen
  have hks : k * size ≤ n * size := Nat.mul_le_mul_right _ hk
  rcases s.rowOpen with ⟨rfl, rfl, rfl, rfl, s'⟩ | ⟨g, off, cur, rfl, s', h4, h5⟩
  · obtain rfl : k = 0 := by omega
    simpa using s
  · refine s'.rowMk (by rw [List.length_take, hl.1, Nat.min_eq_left hks]) (by omega) hl.2.2 h4 ?_
    rw [← h5, List.take_take, Nat.min_eq_left hks]

section
variable {P : Program} {t bytes : Nat}

theorem run_append_room_off (ty : TypeId) (i : TypeInfo) (ht : P.underlying t = some (.slice e)) (hi : P.info? e = some i)
    (g off sLen sCap : Nat) (cur : Array Value) (hg : w.heap[g]? = some (.cells cur e (0, 0)))
    (ad : Addr) (m c : Nat) (news : List Value) (hl : news.length = m * i.size) (hnews : ∀ j u, news[j]? = some u → w.cell? (ad.add j) = some u) (h1 : ∀ u ∈ news, u.oneCell' = true)
    (hroom : sLen + m ≤ sCap) (hfit : off + sLen * i.size + news.length ≤ cur.size) :
    (Builtin.append_ #[t, t] ty #[.slice (some ⟨g, off, none⟩) sLen sCap, .slice (some ad) m c]).run P w =
      .ok (.slice (some ⟨g, off, none⟩) (sLen + m) sCap) (w.setRow g (cur.toList.take (off + sLen * i.size) ++ news ++ cur.toList.drop (off + sLen * i.size + news.length)).toArray) := by
  have hf := run_firstCells_some (P := P) w i.size m ad m c news hl hnews
  have hst := run_storeCells_at P g (off + sLen * i.size) e news 0 cur w hg (by simpa using hfit) h1
  simp only [Nat.add_zero] at hst
  simp [Builtin.append_, run_underlying ht, sizeOf, typeInfo, hi, Builtin.lenOf, hroom, hf, Addr.add_lit, hst]

theorem take_drop_splice (cur news : List Value) (off k m : Nat) (hm : news.length = m) (hf : off + k + m ≤ cur.length) :
    ((cur.take (off + k) ++ news ++ cur.drop (off + k + news.length)).drop off).take (k + m) = (cur.drop off).take k ++ news := by
  rw [List.append_assoc, List.drop_append_of_le_length (by simp; omega), List.drop_take]
  rw [show off + k - off = k from by omega, ← List.append_assoc, List.take_append_of_le_length (by simp; omega), List.take_of_length_le (by simp; omega)]

/-- append: SOME slice that owns what it held and the new ones; all else that is held stays. -/
theorem run_append_row (E : Elem P t e size bytes) (ty : TypeId) (s : Sat W w (row e size a n c xs :: L))
    (ad : Addr) (m cc : Nat) (news : List Value) (hl : news.length = m * size) (hnews : ∀ j u, news[j]? = some u → w.cell? (ad.add j) = some u) (h1 : ∀ u ∈ news, u.oneCell' = true)
    (h63 : n + m ≤ maxLen) (hbytes : (n + m) * bytes ≤ 140737488355328) :
    ∃ a' c' w', (Builtin.append_ #[t, t] ty #[.slice a n c, .slice (some ad) m cc]).run P w = .ok (.slice a' (n + m) c') w' ∧ Sat W w' (row e size a' (n + m) c' (xs ++ news) :: L) ∧
      (a' = none ↔ a = none ∧ m = 0) ∧ w.heap.size ≤ w'.heap.size := by
  obtain ⟨i, z, hi, hz, rfl, rfl, hzs⟩ := E.info
  have ht := E.under
  have hlen := s.rowLen
  have hsmall : n + m ≤ 9223372036854775807 := by simp only [maxLen] at h63; omega
  have hlen' : (xs ++ news).length = (n + m) * i.size := by rw [List.length_append, hlen.1, hl, Nat.add_mul]
  have grown : ∀ (o : Nat), o < n + m → Sat W w L →
      Sat W (w.drew.alloc (.cells (xs.toArray ++ news.toArray ++ Builtin.zeroCells z.cells (grownCap w (n + m) o e - (n + m))) e))
        (row e i.size (some ⟨w.heap.size, 0, none⟩) (n + m) (grownCap w (n + m) o e) (xs ++ news) :: L) := by
    intro o ho s'
    have hge := grownCap_ge w (n + m) o e
    have hcm : grownCap w (n + m) o e ≤ maxLen := grownCap_le_maxLen w (n + m) o e h63
    refine ((s'.drew).alloc _).rowMk (g := w.heap.size) hlen' hge hcm ?_ ?_
    · simp only [Array.size_append, List.size_toArray, size_zeroCells, hzs, hlen.1, hl, ← Nat.add_mul, Nat.zero_add]
      exact Nat.mul_le_mul_right _ (by omega)
    · simp only [Array.toList_append, List.drop_zero]
      rw [← hlen']
      exact List.take_left
  rcases s.rowOpen with ⟨rfl, rfl, rfl, rfl, s'⟩ | ⟨g, off, cur, rfl, s', h4, h5⟩
  · by_cases hm : m = 0
    · subst hm
      have hn : news = [] := List.eq_nil_of_length_eq_zero (by simpa using hl)
      subst hn
      refine ⟨none, 0, w, ?_, by simpa using s, by simp, Nat.le_refl _⟩
      simp [Builtin.append_, run_underlying ht, sizeOf, typeInfo, hi, Builtin.lenOf, Builtin.firstCells, loadCells, loadCellsFrom]
    · have hr := run_append_nil (P := P) w t ty e i z ht hi hz ad m cc news hl hnews (by omega) (by omega) (by have hb := hbytes; simp only [Nat.zero_add] at hb; omega)
      have hgr := grown 0 (by omega) s'
      simp only [Nat.zero_add, List.nil_append, Array.empty_append] at hgr hr ⊢
      exact ⟨_, _, _, hr, hgr, by simp [hm], by simp⟩
  · by_cases hroom : n + m ≤ c
    · have hnc : (n + m) * i.size ≤ c * i.size := Nat.mul_le_mul_right _ hroom
      rw [Nat.add_mul] at hnc
      have hr := run_append_room_off (P := P) ty i ht hi g off n c cur s'.get ad m cc news hl hnews h1 hroom (by rw [hl]; omega)
      refine ⟨_, _, _, hr, ?_, by simp, by simp [World.setRow]⟩
      refine (s'.turn (w' := w.setRow g _) (o' := .cells _ e (0, 0)) rfl rfl rfl (by simp [World.setRow]) (setRow_heap w g cur _ e _ s'.get) fun k _ hk => setRow_other w g k _ hk).rowMk hlen' hroom hlen.2.2 ?_ ?_
      · simp only [List.size_toArray, List.length_append, List.length_take, List.length_drop, Array.length_toList]
        omega
      · rw [Nat.add_mul, take_drop_splice _ _ _ _ _ hl (by simp; omega), h5]
    · have holds : ∀ j u, xs[j]? = some u → w.cell? ((⟨g, off, none⟩ : Addr).add j) = some u := by
        intro j u hj
        have hjl : j < n * i.size := by
          rcases Nat.lt_or_ge j (n * i.size) with q | q
          · exact q
          · rw [List.getElem?_eq_none (by omega)] at hj; cases hj
        rw [Addr.add_lit, s'.cell, ← hj, ← h5, List.getElem?_take_of_lt hjl, List.getElem?_drop]
        simp
      have hr := run_append_grow (P := P) w t ty e i z ht hi hz ⟨g, off, none⟩ n c xs hlen.1 holds ad m cc news hl hnews (by omega) (by omega) (growslice_fits (by omega) hbytes)
      exact ⟨_, _, _, hr, grown c (by omega) s'.drop, by simp, by simp⟩

/-- .. as the walk meets it. -/
theorem wp_append_row {o : Oper} {ac : Act} {K : Act → World → Prop} {Q : Exit → Act → World → Prop} (so xo : Operand)
    (ho : o.op = .call { callee := .builtin .append, args := #[so, xo], argTypes := #[t, t] }) (E : Elem P t e size bytes)
    (hs : ac.eval so = .slice a n c) (s : Sat W w (row e size a n c xs :: L))
    (ad : Addr) (m cc : Nat) (news : List Value) (hx : ac.eval xo = .slice (some ad) m cc) (hl : news.length = m * size) (hnews : ∀ j u, news[j]? = some u → w.cell? (ad.add j) = some u) (h1 : ∀ u ∈ news, u.oneCell' = true)
    (h63 : n + m ≤ maxLen) (hbytes : (n + m) * bytes ≤ 140737488355328)
    (h : ∀ a' c' w', Sat W w' (row e size a' (n + m) c' (xs ++ news) :: L) → (a' = none ↔ a = none ∧ m = 0) → w.heap.size ≤ w'.heap.size → K (ac.put o.dst (.slice a' (n + m) c')) w') : o.wp P ac w K Q := by
  obtain ⟨a', c', w', hr, h2, h3, h4⟩ := run_append_row E o.type s ad m cc news hl hnews h1 h63 hbytes
  unfold Oper.wp execOp
  simp only [ho, resolve, invoke, builtin, Sem.run_bind, Sem.run_pure, Result.andThen_ok, List.map_toArray, List.map_cons, List.map_nil, hs, hx, hr]
  exact h a' c' w' h2 h3 h4
theorem wpList_append_row {ops : Array Oper} {rest : List Oper} {o : Oper} {ac : Act} {Q : Exit → Act → World → Prop} (hgd : o.guard = none) (so xo : Operand)
    (ho : o.op = .call { callee := .builtin .append, args := #[so, xo], argTypes := #[t, t] }) (E : Elem P t e size bytes)
    (hs : ac.eval so = .slice a n c) (s : Sat W w (row e size a n c xs :: L))
    (ad : Addr) (m cc : Nat) (news : List Value) (hx : ac.eval xo = .slice (some ad) m cc) (hl : news.length = m * size) (hnews : ∀ j u, news[j]? = some u → w.cell? (ad.add j) = some u) (h1 : ∀ u ∈ news, u.oneCell' = true)
    (h63 : n + m ≤ maxLen) (hbytes : (n + m) * bytes ≤ 140737488355328)
    (h : ∀ a' c' w', Sat W w' (row e size a' (n + m) c' (xs ++ news) :: L) → (a' = none ↔ a = none ∧ m = 0) → w.heap.size ≤ w'.heap.size → wpList P ops Q rest (ac.put o.dst (.slice a' (n + m) c')) w') : wpList P ops Q (o :: rest) ac w :=
  wpList_plain hgd fun _ hK => wp_append_row so xo ho E hs s ad m cc news hx hl hnews h1 h63 hbytes fun a' c' w' h2 h3 h4 => hK _ _ (h a' c' w' h2 h3 h4)

theorem news1 (w : World) (v : Value) (e : TypeId) : ∀ j u, [v][j]? = some u → (w.alloc (.cells #[v] e)).cell? ((⟨w.heap.size, 0, none⟩ : Addr).add j) = some u := by
  intro j u hj
  match j, hj with
  | 0, hj =>
    simp only [List.getElem?_cons_zero, Option.some.injEq] at hj
    subst hj
    show World.cell? _ ⟨w.heap.size, 0, none⟩ = _
    unfold World.cell?
    rw [heap_alloc_new]
    rfl
/-- append of one element that lies in one cell, made just ahead of it -/
theorem wpList_push_row {w : World} {a : Option Addr} {n c : Nat} {xs : List Value} {ops : Array Oper} {rest : List Oper} {o : Oper} {ac : Act} {Q : Exit → Act → World → Prop} (hgd : o.guard = none) (so xo : Operand)
    (ho : o.op = .call { callee := .builtin .append, args := #[so, xo], argTypes := #[t, t] }) (E : Elem P t e 1 bytes)
    (hs : ac.eval so = .slice a n c) (s : Sat W w (row e 1 a n c xs :: L)) (v : Value)
    {k : Nat} (hx : ac.eval xo = .slice (some ⟨k, 0, none⟩) 1 1) (hk : k = w.heap.size) (h1 : v.oneCell' = true) (h63 : n + 1 ≤ maxLen) (hbytes : (n + 1) * bytes ≤ 140737488355328)
    (h : ∀ a' c' w', Sat W w' (row e 1 a' (n + 1) c' (xs ++ [v]) :: L) → a' ≠ none → w.heap.size ≤ w'.heap.size → wpList P ops Q rest (ac.put o.dst (.slice a' (n + 1) c')) w') :
    wpList P ops Q (o :: rest) ac (w.alloc (.cells #[v] e)) := by
  subst hk
  exact wpList_append_row hgd so xo ho E hs (s.alloc' _) _ 1 1 [v] hx rfl (news1 w v e) (by simpa using h1) h63 hbytes fun a' c' w' s' hn hz =>
    h a' c' w' s' (fun q => by have := hn.1 q; omega) (Nat.le_trans (by simp) hz)

/-- .. as a step of a region that draws its order -/
theorem step_push_row {w : World} {a : Option Addr} {n c : Nat} {xs : List Value} {ops : Array Oper} {o : Oper} {ac : Act} {K : Act → World → Prop} {Q : Exit → Act → World → Prop} {E' : Prop} (hgd : o.guard = none) (so xo : Operand)
    (ho : o.op = .call { callee := .builtin .append, args := #[so, xo], argTypes := #[t, t] }) (E : Elem P t e 1 bytes)
    (hs : ac.eval so = .slice a n c) (s : Sat W w (row e 1 a n c xs :: L)) (v : Value)
    {k : Nat} (hx : ac.eval xo = .slice (some ⟨k, 0, none⟩) 1 1) (hk : k = w.heap.size) (h1 : v.oneCell' = true) (h63 : n + 1 ≤ maxLen) (hbytes : (n + 1) * bytes ≤ 140737488355328)
    (h : ∀ a' c' w', Sat W w' (row e 1 a' (n + 1) c' (xs ++ [v]) :: L) → a' ≠ none → w.heap.size ≤ w'.heap.size → K (ac.put o.dst (.slice a' (n + 1) c')) w') :
    if Region.wanted o (yielded ops ac.tmps) = true then Oper.wp P o ac (w.alloc (.cells #[v] e)) K Q else E' := by
  have hw : Region.wanted o (yielded ops ac.tmps) = true := by simp [Region.wanted, hgd]
  rw [if_pos hw]
  subst hk
  exact wp_append_row so xo ho E hs (s.alloc' _) _ 1 1 [v] hx rfl (news1 w v e) (by simpa using h1) h63 hbytes fun a' c' w' s' hn hz =>
    h a' c' w' s' (fun q => by have := hn.1 q; omega) (Nat.le_trans (by simp) hz)

/-- The same cells under a smaller capacity. -/
theorem Sat.rowCap {c' : Nat} (s : Sat W w (row e size a n c xs :: L)) (h1 : n ≤ c') (h2 : c' ≤ c) : Sat W w (row e size a n c' xs :: L) := by
  have hl := s.rowLen
  rcases s.rowOpen with ⟨rfl, rfl, rfl, rfl, s'⟩ | ⟨g, off, cur, rfl, s', h4, h5⟩
  · obtain rfl : c' = 0 := by omega
    exact s
  · exact s'.rowMk hl.1 h1 (by omega) (Nat.le_trans (Nat.add_le_add_left (Nat.mul_le_mul_right _ h2) _) h4) h5

end
end
#print axioms wpList_append_row
end Go.Proofs.YtlgogflhjpcmlaaDoor
