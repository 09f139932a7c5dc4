/-
  A term that came in, read, with its bulk.
-/
import Derived.Test.YtlgogflhjpcmlaaDoorTArg
import Derived.Test.YtlgogflhjpcmlaaDoorTCmp
import Derived.Test.YtlgogflhjpcmlaaDoorRows
namespace Go.Proofs.YtlgogflhjpcmlaaDoor
open Go.RowKit

mutual
def vol : T → Nat
  | .mk _ _ nm is rs bs => 7 + nm.size + bs.length + (volL is + volL rs)
def volL : List T → Nat
  | [] => 0
  | t :: ts => vol t + volL ts
end
theorem vol_eq (t : T) : vol t = 7 + t.nm.size + t.bs.length + (volL t.is + volL t.rs) := by cases t with | mk k n nm is rs bs => rw [vol]; rfl
theorem bulk_pos {H : Type} (d : DataW H) : 1 ≤ Rows.uptoBulk d := by
  cases d with
  | lit l => cases l <;> simp [Rows.uptoBulk]
  | nil => simp [Rows.uptoBulk]
  | ptr d => simp [Rows.uptoBulk]
  | slice elems spare => simp [Rows.uptoBulk]
  | agg parts => simp [Rows.uptoBulk]
  | iface t d => simp [Rows.uptoBulk]
  | map entries => simp [Rows.uptoBulk]
  | held h => simp [Rows.uptoBulk]
theorem bulk_len {H : Type} (l : List (DataW H)) : l.length ≤ Rows.uptoBulkAll l := by
  induction l with
  | nil => simp [Rows.uptoBulkAll]
  | cons x r ih => have := bulk_pos x; simp only [Rows.uptoBulkAll, List.length_cons]; omega
theorem volL_le {H : Type} : ∀ (ts : List T) (es : List (DataW H × List MemPlace)), ts.length = es.length → (∀ (i : Nat) (t : T) (y : DataW H × List MemPlace), ts[i]? = some t → es[i]? = some y → vol t ≤ Rows.uptoBulk y.1) → volL ts ≤ Rows.uptoBulkAll (es.map (·.1))
  | [], _, _, _ => by simp [volL]
  | t :: ts, [], h, _ => by simp at h
  | t :: ts, e :: es, h, f => by
    rw [volL, List.map_cons, Rows.uptoBulkAll]
    have h1 := f 0 t e rfl rfl
    have h2 := volL_le ts es (by simpa using h) fun i x y hx hy => f (i + 1) x y (by simpa using hx) (by simpa using hy)
    omega
section
variable {H : Type} {enc : TypeId × Value → H} {P : Program} {w : World}
/-- A slice: nil, or a row of cells; each element with its own reading. -/
theorem arg_sliceB {t e : TypeId} {fuel : Nat} {cs : List Value} {x : DataW H × List MemPlace} (ht : P.underlying t = some (.slice e)) (hc : 0 < P.cellsOf e) (h : TrodA enc P w fuel t cs x) (hs : Sz P t x.1) :
    ∃ a len cap n, ∃ es : List (DataW H × List MemPlace), es.length = len ∧ Rows.uptoBulkAll (es.map (·.1)) + 1 ≤ Rows.uptoBulk x.1 ∧ cs = [.slice a len cap] ∧ n < fuel ∧ len ≤ cap ∧ cap ≤ maxLen ∧ cap * P.bytesOf e ≤ 140737488351232 ∧ ∀ (i : Nat) (y : DataW H × List MemPlace), es[i]? = some y → ∃ g off cs', a = some ⟨g, off, none⟩ ∧ cs'.length = P.cellsOf e ∧
      (∀ k, k < P.cellsOf e → w.cell? ⟨g, off + i * P.cellsOf e + k, none⟩ = cs'[k]?) ∧ TrodA enc P w n e cs' y ∧ Sz P e y.1 := by
  rcases DataW.trod_slice ht h with ⟨rfl, rfl⟩ | ⟨a, len, cap, elems, rest, n, hfn, rfl, rfl, _, hl, hm, hlen, hel, hsp, _⟩
  · exact ⟨none, 0, 0, 0, [], rfl, by simp [Rows.uptoBulk, Rows.uptoBulkAll], rfl, by cases fuel with | zero => exact absurd h (by simp [TrodA, DataW.trod]) | succ n => omega, Nat.le_refl _, Nat.zero_le _, by omega, fun i y hi => by simp at hi⟩
  · have hrl := (hsp rfl).1
    refine ⟨some a, len, cap, n, elems, hlen, by simp only [Rows.uptoBulk]; omega, rfl, by omega, hl, hm, ?_, fun i y hy => ?_⟩
    · have := hs ((elems.length + rest.length) * P.bytesOf e) (by simp [DataW.weights, ht])
      rw [hlen, hrl, show len + (cap - len) = cap from by omega] at this
      exact this
    · have hi : i < len := by have := (List.getElem?_eq_some_iff.1 hy).1; omega
      have hye : y = elems[i]'(by omega) := by rw [List.getElem?_eq_getElem (by omega)] at hy; exact (Option.some.inj hy).symm
      subst hye
      have h1 := hel i hi
      rw [List.getElem?_eq_getElem (by omega), Option.bind_eq_some_iff] at h1
      obtain ⟨cs', h2, h3⟩ := h1
      obtain ⟨_, hcl, hcell⟩ := World.cells?_some h2
      have hsp : a.spot = none ∨ 0 < i := by
        rcases Nat.eq_zero_or_pos i with rfl | q
        · left
          have h4 := hcell 0 hc
          rw [List.getElem?_eq_getElem (by omega)] at h4
          obtain ⟨b, off, spot⟩ := a
          cases spot with
          | none => rfl
          | some q => simp [Addr.add, World.cell?] at h4; split at h4 <;> simp at h4
        · exact .inr q
      have h0 := hel 0 (by omega)
      rw [List.getElem?_eq_getElem (by omega), Option.bind_eq_some_iff] at h0
      obtain ⟨cs0, h02, _⟩ := h0
      obtain ⟨_, hcl0, hcell0⟩ := World.cells?_some h02
      have hsp : a.spot = none := by
        have h4 := hcell0 0 hc
        rw [List.getElem?_eq_getElem (by omega)] at h4
        obtain ⟨b, off, spot⟩ := a
        cases spot with
        | none => rfl
        | some q => simp [Addr.add, World.cell?] at h4; split at h4 <;> simp at h4
      obtain ⟨b, off, spot⟩ := a
      simp only at hsp
      subst hsp
      refine ⟨b, off, cs', rfl, hcl, fun k hk => ?_, h3, fun m hm' => ?_⟩
      · have := hcell k hk
        rw [Addr.add_lit, Addr.add_lit] at this
        exact this
      · refine hs m ?_
        simp only [DataW.weights, ht]
        refine List.mem_cons_of_mem _ (List.mem_append.2 (.inl (weightsAll_mem ?_ m hm')))
        exact List.mem_map_of_mem (List.getElem_mem _)

/-- A struct: field by field. -/
theorem arg_structB {t : TypeId} {fs : Array Field} {fuel : Nat} {cs : List Value} {x : DataW H × List MemPlace} (ht : P.underlying t = some (.struct fs)) (h : TrodA enc P w fuel t cs x) (hs : Sz P t x.1) :
    cs.length = P.cellsOf t ∧ ∃ n, ∃ xs : List (DataW H × List MemPlace), xs.length = fs.size ∧ Rows.uptoBulk x.1 = Rows.uptoBulkAll (xs.map (·.1)) + 1 ∧ n < fuel ∧ ∀ (i : Nat) (f : Field), fs[i]? = some f → ∃ y, xs[i]? = some y ∧ TrodA enc P w n f.type ((cs.drop f.offset).take (P.cellsOf f.type)) y ∧ Sz P f.type y.1 := by
  obtain ⟨xs, n, hfn, rfl, hl, hlen, hf⟩ := DataW.trod_struct ht h
  refine ⟨hl, n, xs, hlen, by simp only [Rows.uptoBulk], by omega, fun i f hfi => ?_⟩
  have hi : i < xs.length := by
    rw [hlen]
    exact (Array.getElem?_eq_some_iff.1 hfi).1
  have h1 := hf i f hfi
  rw [List.getElem?_eq_getElem hi] at h1
  refine ⟨xs[i], List.getElem?_eq_getElem hi, h1, fun m hm => ?_⟩
  refine hs m ?_
  simp only [DataW.weights, ht]
  refine DataW.weights_mem_each (j := i) (t := f.type) (d := (xs[i]).1) ?_ ?_ m hm
  · rw [List.getElem?_map]
    have : fs.toList[i]? = some f := by simpa using hfi
    rw [this]; rfl
  · rw [List.getElem?_map, List.getElem?_eq_getElem hi]; rfl

/-- A slice of integers: its elements. -/
theorem arg_intsB {t e : TypeId} {k : IntKind} {fuel : Nat} {cs : List Value} {x : DataW H × List MemPlace} (ht : P.underlying t = some (.slice e)) (he : P.underlying e = some (.int k)) (hc : P.cellsOf e = 1) (h : TrodA enc P w fuel t cs x) (hs : Sz P t x.1) :
    ∃ (a : Option Addr) (cap : Nat) (xs : List Int), cs = [.slice a xs.length cap] ∧ xs.length + 1 ≤ Rows.uptoBulk x.1 ∧ xs.length ≤ cap ∧ cap * P.bytesOf e ≤ 140737488351232 ∧ Rd w a (xs.map (Value.int k)) ∧ ∀ n ∈ xs, (Lit.int k n).wf = true := by
  obtain ⟨a, cap, xs, hcs, h1, h2, h3, h4⟩ := arg_ints ht he hc h hs
  obtain ⟨a', len, cap', n, es, hl, hb, hcs', _⟩ := arg_sliceB ht (by omega) h hs
  refine ⟨a, cap, xs, hcs, ?_, h1, h2, h3, h4⟩
  rw [hcs] at hcs'
  simp only [List.cons.injEq, Value.slice.injEq, and_true] at hcs'
  have hm := bulk_len (es.map (·.1))
  rw [List.length_map] at hm
  omega
end
section
variable {H : Type} {enc : TypeId × Value → H} {w : World}
theorem arg_termsB_of {fuel : Nat} (ih : ∀ n, n < fuel → ∀ (cs : List Value) (x : DataW H × List MemPlace), TrodA enc Tryd.prog w n 35 cs x → Sz Tryd.prog 35 x.1 → ∃ t, TGood w cs t ∧ vol t ≤ Rows.uptoBulk x.1)
    {cs : List Value} {x : DataW H × List MemPlace} (h : TrodA enc Tryd.prog w fuel 31 cs x) (hs : Sz Tryd.prog 31 x.1) :
    ∃ (a : Option Addr) (c : Nat) (ts : List T), cs = [.slice a ts.length c] ∧ ts.length ≤ c ∧ c ≤ maxLen ∧ ts.length ≤ 1353245080300 ∧ LIn (heapOf w) ts a 0 ∧ (∀ t ∈ ts, TOk t) ∧ volL ts + 1 ≤ Rows.uptoBulk x.1 := by
  have hc : Tryd.prog.cellsOf 35 = 6 := by kernel_rfl
  have hb : Tryd.prog.bytesOf 35 = 104 := by kernel_rfl
  obtain ⟨a, len, cap, n, es, hel, hbk, rfl, hn, h1, hm, h2, h3⟩ := arg_sliceB Tryd.underlying31 (by rw [hc]; omega) h hs
  rw [hb] at h2
  haveI : Inhabited (T × List Value) := ⟨(.mk 0 0 ByteArray.empty [] [] [], [])⟩
  obtain ⟨f, hf⟩ := Deep.choose_lt (n := len) (p := fun i (z : T × List Value) => (∃ g off, a = some ⟨g, off, none⟩ ∧ ∀ k u, z.2[k]? = some u → w.cell? ⟨g, off + i * 6 + k, none⟩ = some u) ∧ TGood w z.2 z.1 ∧ ∀ y, es[i]? = some y → vol z.1 ≤ Rows.uptoBulk y.1) (fun i hi => by
    have hy : es[i]? = some (es[i]'(by omega)) := List.getElem?_eq_getElem (by omega)
    obtain ⟨g, off, cs', ha, hl, hcell, ht', hz⟩ := h3 i _ hy
    obtain ⟨t, ht, hv⟩ := ih n hn cs' _ ht' hz
    rw [hc] at hcell hl
    refine ⟨(t, cs'), ⟨g, off, ha, fun k u hk => ?_⟩, ht, fun y hy' => ?_⟩
    · have hk6 : k < 6 := by
        have := (List.getElem?_eq_some_iff.1 hk).1
        simp only at this; omega
      rw [hcell k hk6]; exact hk
    · rw [hy] at hy'
      cases hy'
      exact hv)
  refine ⟨a, cap, (List.range len).map fun i => (f i).1, by simp, by simpa using h1, hm, by simp; omega, LIn.of_get fun j t hj => ?_, fun t ht => ?_, ?_⟩
  · have hjl : j < len := by
      have := (List.getElem?_eq_some_iff.1 hj).1
      simpa using this
    obtain ⟨⟨g, off, ha, hcell⟩, hg, _⟩ := hf j hjl
    have ht : t = (f j).1 := by
      simp [hjl] at hj
      exact hj.symm
    subst ht
    refine ⟨g, off, (f j).2, ha, fun k u hk => ?_, hg.1⟩
    rw [Nat.zero_add]
    exact heap_cell (hcell k u hk)
  · simp only [List.mem_map, List.mem_range] at ht
    obtain ⟨i, hi, rfl⟩ := ht
    exact (hf i hi).2.1.2
  · have := volL_le ((List.range len).map fun i => (f i).1) es (by simp; omega) fun i t y ht hy => by
      have hjl : i < len := by
        have := (List.getElem?_eq_some_iff.1 ht).1
        simpa using this
      have he : t = (f i).1 := by
        simp [hjl] at ht
        exact ht.symm
      subst he
      exact (hf i hjl).2.2 y hy
    omega
theorem arg_stringB {t : TypeId} {fuel : Nat} {cs : List Value} {x : DataW H × List MemPlace} (ht : Tryd.prog.underlying t = some .string) (h : TrodA enc Tryd.prog w fuel t cs x) (hs : Sz Tryd.prog t x.1) : ∃ s : ByteArray, cs = [.string s] ∧ s.size ≤ 140737488351232 ∧ s.size + 1 ≤ Rows.uptoBulk x.1 := by
  obtain ⟨s, h1, rfl, _⟩ := DataW.trod_string ht h
  refine ⟨s, h1, ?_, by simp [Rows.uptoBulk]⟩
  have := hs s.data.toList.length (by simp [DataW.weights])
  simpa using this
set_option maxRecDepth 100000 in
theorem arg_termB : ∀ (fuel : Nat) (cs : List Value) (x : DataW H × List MemPlace), TrodA enc Tryd.prog w fuel 35 cs x → Sz Tryd.prog 35 x.1 → ∃ t, TGood w cs t ∧ vol t ≤ Rows.uptoBulk x.1 := by
  intro fuel
  induction fuel using Nat.strongRecOn with
  | _ fuel ih =>
    intro cs x h hs
    obtain ⟨hl, n, xs, hxl, hbk, hn, hf⟩ := arg_structB Tryd.underlying35 h hs
    have hc : Tryd.prog.cellsOf 35 = 6 := by kernel_rfl
    rw [hc] at hl
    match cs, hl with
    | [v0, v1, v2, v3, v4, v5], _ =>
      obtain ⟨y0, x0, t0, _⟩ := hf 0 _ rfl
      obtain ⟨y1, x1, t1, _⟩ := hf 1 _ rfl
      obtain ⟨y2, x2, t2, z2⟩ := hf 2 _ rfl
      obtain ⟨y3, x3, t3, z3⟩ := hf 3 _ rfl
      obtain ⟨y4, x4, t4, z4⟩ := hf 4 _ rfl
      obtain ⟨y5, x5, t5, z5⟩ := hf 5 _ rfl
      have k0 : Tryd.prog.cellsOf 3 = 1 := by kernel_rfl
      have k1 : Tryd.prog.cellsOf 2 = 1 := by kernel_rfl
      have k2 : Tryd.prog.cellsOf 9 = 1 := by kernel_rfl
      have k3 : Tryd.prog.cellsOf 31 = 1 := by kernel_rfl
      have k5 : Tryd.prog.cellsOf 33 = 1 := by kernel_rfl
      change TrodA enc Tryd.prog w n 3 (List.take (Tryd.prog.cellsOf 3) [v0, v1, v2, v3, v4, v5]) y0 at t0
      change TrodA enc Tryd.prog w n 2 (List.take (Tryd.prog.cellsOf 2) [v1, v2, v3, v4, v5]) y1 at t1
      change TrodA enc Tryd.prog w n 9 (List.take (Tryd.prog.cellsOf 9) [v2, v3, v4, v5]) y2 at t2
      change TrodA enc Tryd.prog w n 31 (List.take (Tryd.prog.cellsOf 31) [v3, v4, v5]) y3 at t3
      change TrodA enc Tryd.prog w n 31 (List.take (Tryd.prog.cellsOf 31) [v4, v5]) y4 at t4
      change TrodA enc Tryd.prog w n 33 (List.take (Tryd.prog.cellsOf 33) [v5]) y5 at t5
      rw [k0] at t0
      rw [k1] at t1
      rw [k2] at t2
      rw [k3] at t3 t4
      rw [k5] at t5
      obtain ⟨k, e0, w0⟩ := arg_int (k := .i64) Tryd.underlying3 t0
      obtain ⟨m, e1, w1⟩ := arg_int (k := .i64) Tryd.underlying2 t1
      obtain ⟨s, e2, hs2, hb2⟩ := arg_stringB Tryd.underlying9 t2 z2
      have ih' : ∀ n', n' < n → ∀ (cs : List Value) (x : DataW H × List MemPlace), TrodA enc Tryd.prog w n' 35 cs x → Sz Tryd.prog 35 x.1 → ∃ t, TGood w cs t ∧ vol t ≤ Rows.uptoBulk x.1 := fun n' hn' cs x hx hz => ih n' (by omega) cs x hx hz
      obtain ⟨ia, ic, is, e3, li, mi, bi, qi, oi, vi⟩ := arg_termsB_of ih' t3 z3
      obtain ⟨ra, rc, rs, e4, lr, mr, br, qr, or, vr⟩ := arg_termsB_of ih' t4 z4
      have kb : Tryd.prog.cellsOf 5 = 1 := by kernel_rfl
      have bb : Tryd.prog.bytesOf 5 = 1 := by kernel_rfl
      obtain ⟨ba, bc, bs, e5, vb, lb, cb, rb, ob⟩ := arg_intsB (k := .u8) Tryd.underlying33 Tryd.underlying5 kb t5 z5
      rw [bb] at cb
      cases e0; cases e1; cases e2; cases e3; cases e4; cases e5
      have hm : bc ≤ maxLen := by unfold maxLen; omega
      have HV : vol (.mk k m s is rs bs) ≤ Rows.uptoBulk x.1 := by
        have h6 : xs = [y0, y1, y2, y3, y4, y5] := by
          match xs, hxl with
          | [a0, a1, a2, a3, a4, a5], _ =>
            simp only [List.getElem?_cons_zero, List.getElem?_cons_succ, Option.some.injEq] at x0 x1 x2 x3 x4 x5
            rw [x0, x1, x2, x3, x4, x5]
        rw [hbk, h6]
        simp only [List.map_cons, List.map_nil, Rows.uptoBulkAll]
        have p0 := bulk_pos y0.1
        have p1 := bulk_pos y1.1
        rw [vol]
        omega
      refine ⟨.mk k m s is rs bs, ⟨TIn.of qi qr (Rd.heapOf rb) ⟨li, lr, lb, mi, mr, hm⟩, ?_⟩, HV⟩
      have iw : ∀ z, (Lit.int .i64 z).wf = true → fits z := fun z hz => by
        have hz' : (decide (-9223372036854775808 ≤ z) && decide (z ≤ 9223372036854775807)) = true := hz
        simpa [fits] using hz'
      unfold TOk
      refine ⟨iw k w0, iw m w1, hs2, bi, br, by omega, fun b hb => ?_, LOk.of oi, LOk.of or⟩
      have hz' : (decide (0 ≤ b) && decide (b ≤ 255)) = true := ob b hb
      simpa using hz'
end
#print axioms arg_termB
theorem fits_wf {z : Int} (hz : (Lit.int .i64 z).wf = true) : fits z := by
  have hz' : (decide (-9223372036854775808 ≤ z) && decide (z ≤ 9223372036854775807)) = true := hz
  simpa [fits] using hz'
theorem str_size {H : Type} (s : ByteArray) (n : Nat) (h : Rows.uptoBulk (H := H) (.lit (.string s.data.toList)) ≤ n) : s.size ≤ n := by
  have h2 : s.data.toList.length = s.size := Array.length_toList
  simp only [Rows.uptoBulk] at h
  omega
theorem wt_vol (t : T) : wt t ≤ vol t := by
  have key : ∀ (ts : List T), (∀ t ∈ ts, wt t ≤ vol t) → wtL ts ≤ volL ts := by
    intro ts
    induction ts with
    | nil => intro _; simp [wtL, volL]
    | cons x xs ih =>
      intro f
      rw [wtL, volL]
      have := f x (by simp)
      have := ih fun t ht => f t (by simp [ht])
      omega
  induction t using T.ind with
  | h k n nm is rs bs ih1 ih2 =>
    rw [wt, vol]
    have h1 := key is ih1
    have h2 := key rs ih2
    split <;> omega
end Go.Proofs.YtlgogflhjpcmlaaDoor
