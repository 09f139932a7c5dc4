/-
  append from a source of elements of so many cells, and a copy of such a slice. No program in sight.
-/
import Derived.Test.YtlgogflhjpcmlaaDoorSrc
namespace Go.Proofs.YtlgogflhjpcmlaaDoor
open Go.RowKit
section
variable {W w : World} {L : List HP} {e size n c : Nat} {a : Option Addr} {xs : List Value} {P : Program} {t bytes : Nat}
theorem run_append_srcN (E : Elem P t e size bytes) (ty : TypeId) (s : Sat W w (row e size a n c xs :: L))
    (sp : Option Addr) (m cc : Nat) (news : List Value) (hm : news.length = m * size) (hnews : Rd w sp news) (h1 : ∀ u ∈ news, u.oneCell' = true)
    (h63 : n + m ≤ maxLen) (hbytes : (n + m) * bytes ≤ 140737488355328) :
    ∃ a' c' w', (Builtin.append_ #[t, t] ty #[.slice a n c, .slice sp m cc]).run P w = .ok (.slice a' (n + m) c') w' ∧ Sat W w' (row e size a' (n + m) c' (xs ++ news) :: L) ∧
      (a' = none ↔ a = none ∧ m = 0) ∧ w.heap.size ≤ w'.heap.size := by
  cases sp with
  | some ad =>
    refine run_append_row E ty s ad m cc news hm (fun j u hj => ?_) h1 h63 hbytes
    obtain ⟨g, off, ha, hc⟩ := hnews j u hj
    simp only [Option.some.injEq] at ha
    subst ha
    rw [Addr.add_lit]; exact hc
  | none =>
    have hn : news = [] := by
      cases news with
      | nil => rfl
      | cons v l => obtain ⟨_, _, ha, _⟩ := hnews 0 v rfl; cases ha
    subst hn
    have hp := E.pos
    obtain rfl : m = 0 := by
      have h0 : m * size = 0 := by simpa using hm.symm
      rcases Nat.mul_eq_zero.1 h0 with q | q
      · exact q
      · omega
    obtain ⟨i, z, hi, hz, hsz, _, hzs⟩ := E.info
    have ht := E.under
    have hl := s.rowLen
    refine ⟨a, c, w, ?_, by simpa using s, by simp, Nat.le_refl _⟩
    cases a with
    | none =>
      obtain ⟨rfl, rfl, rfl⟩ := s.rowNone
      simp [Builtin.append_, run_underlying ht, sizeOf, typeInfo, hi, Builtin.lenOf, Builtin.firstCells]
    | some ad => simp [Builtin.append_, run_underlying ht, sizeOf, typeInfo, hi, Builtin.lenOf, Builtin.firstCells, storeCells, hl.2.1]
theorem wpList_append_srcN {ops : Array Oper} {rest : List Oper} {o : Oper} {ac : Act} {Q : Exit → Act → World → Prop} (hgd : o.guard = none) (so xo : Operand)
    (ho : o.op = .call { callee := .builtin .append, args := #[so, xo], argTypes := #[t, t] }) (E : Elem P t e size bytes)
    (hs : ac.eval so = .slice a n c) (s : Sat W w (row e size a n c xs :: L))
    {sp : Option Addr} {m cc : Nat} (news : List Value) (hx : ac.eval xo = .slice sp m cc) (hm : news.length = m * size) (hnews : Rd w sp news) (h1 : ∀ u ∈ news, u.oneCell' = true)
    (h63 : n + m ≤ maxLen) (hbytes : (n + m) * bytes ≤ 140737488355328)
    (h : ∀ a' c' w', Sat W w' (row e size a' (n + m) c' (xs ++ news) :: L) → (a' = none ↔ a = none ∧ m = 0) → w.heap.size ≤ w'.heap.size → wpList P ops Q rest (ac.put o.dst (.slice a' (n + m) c')) w') : wpList P ops Q (o :: rest) ac w := by
  refine wpList_plain hgd fun K hK => ?_
  obtain ⟨a', c', w', hr, h2, h3, h4⟩ := run_append_srcN E o.type s sp m cc news hm hnews h1 h63 hbytes
  unfold Oper.wp execOp
  simp only [ho, resolve, invoke, builtin, Sem.run_bind, Sem.run_pure, Result.andThen_ok, List.map_toArray, List.map_cons, List.map_nil, hs, hx, hr]
  exact hK _ _ (h a' c' w' h2 h3 h4)
theorem wpList_clone_srcN {ops : Array Oper} {rest : List Oper} {o : Oper} {ac : Act} {Q : Exit → Act → World → Prop} (hgd : o.guard = none) (so xo : Operand)
    (ho : o.op = .call { callee := .builtin .append, args := #[so, xo], argTypes := #[t, t] }) (E : Elem P t e size bytes)
    (hs : ac.eval so = .slice none 0 0) (s : Sat W w L)
    {sp : Option Addr} {m cc : Nat} (news : List Value) (hx : ac.eval xo = .slice sp m cc) (hm : news.length = m * size) (hnews : Rd w sp news) (h1 : ∀ u ∈ news, u.oneCell' = true)
    (h63 : m ≤ maxLen) (hbytes : m * bytes ≤ 140737488355328)
    (h : ∀ a' c' w', Sat W w' (row e size a' m c' news :: L) → (a' = none ↔ m = 0) → w.heap.size ≤ w'.heap.size → wpList P ops Q rest (ac.put o.dst (.slice a' m c')) w') : wpList P ops Q (o :: rest) ac w := by
  refine wpList_append_srcN hgd so xo ho E hs (s.rowNil (e := e) (size := size)) news hx hm hnews h1 (by omega) (by simpa using hbytes) fun a' c' w' s' hn hz => ?_
  rw [Nat.zero_add] at s' ⊢
  exact h a' c' w' s' (by simpa using hn) hz
end
#print axioms wpList_clone_srcN
end Go.Proofs.YtlgogflhjpcmlaaDoor
