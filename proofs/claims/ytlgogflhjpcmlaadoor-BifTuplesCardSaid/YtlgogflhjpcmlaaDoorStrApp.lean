/-
  append of a string's bytes to a row of bytes, in the small separation logic. No program in sight.
-/
import Derived.Test.YtlgogflhjpcmlaaDoorSrc
import Derived.Lib.AppendStr
namespace Go.Proofs.YtlgogflhjpcmlaaDoor
open Go.RowKit
section
variable {W w : World} {L : List HP} {e n c : Nat} {a : Option Addr} {xs : List Value} {P : Program} {t u : Nat}
theorem run_append_str_off (ty : TypeId) (i : TypeInfo) (ht : P.underlying t = some (.slice e)) (hu : P.underlying u = some .string) (hi : P.info? e = some i) (hs1 : i.size = 1)
    (g off sLen sCap : Nat) (cur : Array Value) (hg : w.heap[g]? = some (.cells cur e (0, 0))) (s : ByteArray) (hroom : sLen + s.size ≤ sCap) (hfit : off + sLen + s.size ≤ cur.size) :
    (Builtin.append_ #[t, u] ty #[.slice (some ⟨g, off, none⟩) sLen sCap, .string s]).run P w =
      .ok (.slice (some ⟨g, off, none⟩) (sLen + s.size) sCap) (w.setRow g (cur.toList.take (off + sLen) ++ Lib.strCells s ++ cur.toList.drop (off + sLen + (Lib.strCells s).length)).toArray) := by
  have hf := Lib.run_firstCells_string (P := P) w 1 s
  have hst := run_storeCells_at P g (off + sLen) e (Lib.strCells s) 0 cur w hg (by simpa [Lib.strCells_length] using hfit) (Lib.strCells_oneCell s)
  simp only [Nat.add_zero, Lib.strCells_length] at hst
  simp [Builtin.append_, run_underlying ht, run_underlying hu, sizeOf, typeInfo, hi, hs1, Builtin.lenOf, hroom, hf, Addr.add_lit, hst, Lib.strCells_length]
theorem run_append_strS (ty : TypeId) (ht : P.underlying t = some (.slice e)) (hu : P.underlying u = some .string) (h2 : (P.info? e).map (fun i => (i.zero, i.size, i.bytes)) = some (some (.int .u8 0), 1, 1))
    (s : Sat W w (row e 1 a n c xs :: L)) (str : ByteArray) (h63 : n + str.size ≤ maxLen) (hb : n + str.size ≤ 140737488355328) :
    ∃ a' c' w', (Builtin.append_ #[t, u] ty #[.slice a n c, .string str]).run P w = .ok (.slice a' (n + str.size) c') w' ∧ Sat W w' (row e 1 a' (n + str.size) c' (xs ++ Lib.strCells str) :: L) ∧ w.heap.size ≤ w'.heap.size := by
  obtain ⟨i, hi, hz, hs1, hby⟩ : ∃ i, P.info? e = some i ∧ i.zero = some (.int .u8 0) ∧ i.size = 1 ∧ i.bytes = 1 := by
    cases hi : P.info? e with
    | none => rw [hi] at h2; cases h2
    | some i => rw [hi] at h2; simp only [Option.map_some, Option.some.injEq, Prod.mk.injEq] at h2; exact ⟨i, rfl, h2.1, h2.2.1, h2.2.2⟩
  have hlen := s.rowLen
  have hlen' : (xs ++ Lib.strCells str).length = (n + str.size) * 1 := by rw [List.length_append, hlen.1, Lib.strCells_length]; omega
  have hm : n + str.size ≤ 9223372036854775807 := by simp only [maxLen] at h63; omega
  have grown : ∀ (o : Nat), Sat W w L → Sat W (w.drew.alloc (.cells (xs.toArray ++ (Lib.strCells str).toArray ++ Builtin.zeroCells (Value.int .u8 0).cells (grownCap w (n + str.size) o e - (n + str.size))) e))
        (row e 1 (some ⟨w.heap.size, 0, none⟩) (n + str.size) (grownCap w (n + str.size) o e) (xs ++ Lib.strCells str) :: L) := by
    intro o s'
    have hge := grownCap_ge w (n + str.size) o e
    have hcm : grownCap w (n + str.size) o e ≤ maxLen := grownCap_le_maxLen w (n + str.size) o e h63
    refine ((s'.drew).alloc _).rowMk (g := w.heap.size) hlen' hge hcm ?_ ?_
    · simp only [Array.size_append, List.size_toArray, size_zeroCells, hlen.1, Lib.strCells_length, Nat.zero_add, Nat.mul_one]
      simp [Value.cells]
      omega
    · simp only [Array.toList_append, List.drop_zero]
      rw [← hlen']
      exact List.take_left
  rcases s.rowOpen with ⟨rfl, rfl, rfl, rfl, s'⟩ | ⟨g, off, cur, rfl, s', h4, h5⟩
  · by_cases h0 : str.size = 0
    · have hsc : Lib.strCells str = [] := List.eq_nil_of_length_eq_zero (by rw [Lib.strCells_length, h0])
      refine ⟨none, 0, w, ?_, by rw [h0, hsc]; simpa using s, Nat.le_refl _⟩
      have hf := Lib.run_firstCells_string (P := P) w i.size str
      simp [Builtin.append_, run_underlying ht, run_underlying hu, sizeOf, typeInfo, hi, Builtin.lenOf, Builtin.firstCells, h0]
    · have hr := run_append_nil_string (P := P) w t u ty e i (.int .u8 0) ht hu hi hz str (by omega) (by omega) (by rw [hby]; omega)
      have hgr := grown 0 s'
      simp only [Nat.zero_add, List.nil_append, Array.empty_append] at hgr hr ⊢
      have hx : Array.map (fun b : UInt8 => Value.int IntKind.u8 (b.toNat : Int)) str.data = (Lib.strCells str).toArray := by
        apply Array.ext'
        simp [Lib.strCells]
      rw [hx] at hr
      exact ⟨_, _, _, hr, hgr, by simp⟩
  · by_cases hroom : n + str.size ≤ c
    · have hr := run_append_str_off (P := P) (w := w) ty i ht hu hi hs1 g off n c cur s'.get str hroom (by omega)
      refine ⟨_, _, _, hr, ?_, by simp [World.setRow]⟩
      refine (s'.turn (w' := w.setRow g _) (o' := .cells _ e (0, 0)) rfl rfl rfl (by simp [World.setRow]) (setRow_heap w g cur _ e _ s'.get) fun k _ hk => setRow_other w g k _ hk).rowMk hlen' hroom hlen.2.2 ?_ ?_
      · simp only [List.size_toArray, List.length_append, List.length_take, List.length_drop, Array.length_toList]
        have := Lib.strCells_length str
        omega
      · have h6 := take_drop_splice cur.toList (Lib.strCells str) off n str.size (Lib.strCells_length str) (by simp; omega)
        rw [Nat.mul_one] at h5
        rw [Nat.mul_one, h6, h5]
    · have holds : ∀ j v, xs[j]? = some v → w.cell? ((⟨g, off, none⟩ : Addr).add j) = some v := by
        intro j v hj
        have hjl : j < n * 1 := by
          rcases Nat.lt_or_ge j (n * 1) with q | q
          · exact q
          · rw [List.getElem?_eq_none (by omega)] at hj; cases hj
        rw [Addr.add_lit, s'.cell, ← hj, ← h5, List.getElem?_take_of_lt hjl, List.getElem?_drop]
        simp
      have hr := Lib.run_append_grow_string (P := P) w t u ty e i (.int .u8 0) ht hu hi hz ⟨g, off, none⟩ n c xs (by rw [hs1]; exact hlen.1) holds str (by omega) (by omega) (growslice_fits (by omega) (by rw [hby]; omega))
      exact ⟨_, _, _, hr, grown c s'.drop, by simp⟩
theorem wpList_append_str {ops : Array Oper} {rest : List Oper} {o : Oper} {ac : Act} {Q : Exit → Act → World → Prop} (hgd : o.guard = none) (so xo : Operand)
    (ho : o.op = .call { callee := .builtin .append, args := #[so, xo], argTypes := #[t, u] }) (ht : P.underlying t = some (.slice e)) (hu : P.underlying u = some .string) (h2 : (P.info? e).map (fun i => (i.zero, i.size, i.bytes)) = some (some (.int .u8 0), 1, 1))
    (hs : ac.eval so = .slice a n c) (s : Sat W w (row e 1 a n c xs :: L)) (str : ByteArray) (hx : ac.eval xo = .string str) (h63 : n + str.size ≤ maxLen) (hb : n + str.size ≤ 140737488355328)
    (h : ∀ a' c' w', Sat W w' (row e 1 a' (n + str.size) c' (xs ++ Lib.strCells str) :: L) → w.heap.size ≤ w'.heap.size → wpList P ops Q rest (ac.put o.dst (.slice a' (n + str.size) c')) w') : wpList P ops Q (o :: rest) ac w := by
  refine wpList_plain hgd fun K hK => ?_
  obtain ⟨a', c', w', hr, h3, h4⟩ := run_append_strS o.type ht hu h2 s str h63 hb
  unfold Oper.wp execOp
  simp only [ho, resolve, invoke, builtin, Sem.run_bind, Sem.run_pure, Result.andThen_ok, List.map_toArray, List.map_cons, List.map_nil, hs, hx, hr]
  exact hK _ _ (h a' c' w' h3 h4)
end
#print axioms wpList_append_str
end Go.Proofs.YtlgogflhjpcmlaaDoor
