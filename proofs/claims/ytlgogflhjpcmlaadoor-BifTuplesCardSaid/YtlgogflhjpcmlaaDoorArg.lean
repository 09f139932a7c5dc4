/-
  WHAT CAME IN, read by its type, to any depth, with the form's own reach: slices, structs, integers, bools, strings. No program in sight.
-/
import Derived.Test.YtlgogflhjpcmlaaDoorSrc
import Derived.ProofKit
import Derived.ChangeOld
import Derived.SizedLaws
import Derived.Carry
import Derived.Deep.Slices
namespace Go.Proofs.YtlgogflhjpcmlaaDoor
open Go.RowKit

section
variable {H : Type} {enc : TypeId × Value → H} {P : Program} {w : World}

/-- What the form's own reach says of a datum. -/
def Sz (P : Program) (t : TypeId) (d : DataW H) : Prop := ∀ n ∈ d.weights P t, n ≤ 140737488351232
theorem sz_arg {ts : List TypeId} {ds : List (DataW H)} (h : (DataW.weightsEach P ts ds).all (· ≤ reachBytes) = true) {j : Nat} {t : TypeId} {d : DataW H} (ht : ts[j]? = some t) (hd : ds[j]? = some d) : Sz P t d := fun n hn => by
  have := List.all_eq_true.1 h n (DataW.weights_mem_each ht hd n hn)
  have hr : reachBytes = 140737488351232 := by decide
  rw [hr] at this
  simpa using this

abbrev TrodA (enc : TypeId × Value → H) (P : Program) (w : World) (n : Nat) (t : TypeId) (cs : List Value) (x : DataW H × List MemPlace) : Prop :=
  DataW.trod enc P w 0 (fun _ => true) true n t cs = some x

theorem weightsAll_mem {e : TypeId} : ∀ {ds : List (DataW H)} {d : DataW H}, d ∈ ds → ∀ n ∈ d.weights P e, n ∈ DataW.weightsAll P e ds
  | d0 :: ds, d, hd, n, hn => by
    simp only [DataW.weightsAll, List.mem_append]
    rcases List.mem_cons.1 hd with rfl | hd
    · exact .inl hn
    · exact .inr (weightsAll_mem hd n hn)

/-- A slice: nil, or a row of cells; each element with its own reading. -/
theorem arg_slice {t e : TypeId} {fuel : Nat} {cs : List Value} {x : DataW H × List MemPlace} (ht : P.underlying t = some (.slice e)) (hc : 0 < P.cellsOf e) (h : TrodA enc P w fuel t cs x) (hs : Sz P t x.1) :
    ∃ a len cap n, cs = [.slice a len cap] ∧ n < fuel ∧ len ≤ cap ∧ cap ≤ maxLen ∧ cap * P.bytesOf e ≤ 140737488351232 ∧ ∀ i, i < len → ∃ g off cs' y, a = some ⟨g, off, none⟩ ∧ cs'.length = P.cellsOf e ∧
      (∀ k, k < P.cellsOf e → w.cell? ⟨g, off + i * P.cellsOf e + k, none⟩ = cs'[k]?) ∧ TrodA enc P w n e cs' y ∧ Sz P e y.1 := by
  rcases DataW.trod_slice ht h with ⟨rfl, rfl⟩ | ⟨a, len, cap, elems, rest, n, hfn, rfl, rfl, _, hl, hm, hlen, hel, hsp, _⟩
  · exact ⟨none, 0, 0, 0, rfl, by cases fuel with | zero => exact absurd h (by simp [TrodA, DataW.trod]) | succ n => omega, Nat.le_refl _, Nat.zero_le _, by omega, fun i hi => by omega⟩
  · have hrl := (hsp rfl).1
    refine ⟨some a, len, cap, n, rfl, by omega, hl, hm, ?_, fun i hi => ?_⟩
    · have := hs ((elems.length + rest.length) * P.bytesOf e) (by simp [DataW.weights, ht])
      rw [hlen, hrl, show len + (cap - len) = cap from by omega] at this
      exact this
    · have h1 := hel i hi
      rw [List.getElem?_eq_getElem (by omega), Option.bind_eq_some_iff] at h1
      obtain ⟨cs', h2, h3⟩ := h1
      obtain ⟨_, hcl, hcell⟩ := World.cells?_some h2
      have hsp : a.spot = none ∨ 0 < i := by
        rcases Nat.eq_zero_or_pos i with rfl | q
        · left
          have h4 := hcell 0 hc
          rw [List.getElem?_eq_getElem (by omega)] at h4
          obtain ⟨b, off, spot⟩ := a
          cases spot with
          | none => rfl
          | some q => simp [Addr.add, World.cell?] at h4; split at h4 <;> simp at h4
        · exact .inr q
      have h0 := hel 0 (by omega)
      rw [List.getElem?_eq_getElem (by omega), Option.bind_eq_some_iff] at h0
      obtain ⟨cs0, h02, _⟩ := h0
      obtain ⟨_, hcl0, hcell0⟩ := World.cells?_some h02
      have hsp : a.spot = none := by
        have h4 := hcell0 0 hc
        rw [List.getElem?_eq_getElem (by omega)] at h4
        obtain ⟨b, off, spot⟩ := a
        cases spot with
        | none => rfl
        | some q => simp [Addr.add, World.cell?] at h4; split at h4 <;> simp at h4
      obtain ⟨b, off, spot⟩ := a
      simp only at hsp
      subst hsp
      refine ⟨b, off, cs', elems[i], rfl, hcl, fun k hk => ?_, h3, fun m hm' => ?_⟩
      · have := hcell k hk
        rw [Addr.add_lit, Addr.add_lit] at this
        exact this
      · refine hs m ?_
        simp only [DataW.weights, ht]
        refine List.mem_cons_of_mem _ (List.mem_append.2 (.inl (weightsAll_mem ?_ m hm')))
        exact List.mem_map_of_mem (List.getElem_mem _)

/-- A struct: field by field. -/
theorem arg_struct {t : TypeId} {fs : Array Field} {fuel : Nat} {cs : List Value} {x : DataW H × List MemPlace} (ht : P.underlying t = some (.struct fs)) (h : TrodA enc P w fuel t cs x) (hs : Sz P t x.1) :
    cs.length = P.cellsOf t ∧ ∃ n, n < fuel ∧ ∀ (i : Nat) (f : Field), fs[i]? = some f → ∃ y, TrodA enc P w n f.type ((cs.drop f.offset).take (P.cellsOf f.type)) y ∧ Sz P f.type y.1 := by
  obtain ⟨xs, n, hfn, rfl, hl, hlen, hf⟩ := DataW.trod_struct ht h
  refine ⟨hl, n, by omega, fun i f hfi => ?_⟩
  have hi : i < xs.length := by
    rw [hlen]
    exact (Array.getElem?_eq_some_iff.1 hfi).1
  have h1 := hf i f hfi
  rw [List.getElem?_eq_getElem hi] at h1
  refine ⟨xs[i], h1, fun m hm => ?_⟩
  refine hs m ?_
  simp only [DataW.weights, ht]
  refine DataW.weights_mem_each (j := i) (t := f.type) (d := (xs[i]).1) ?_ ?_ m hm
  · rw [List.getElem?_map]
    have : fs.toList[i]? = some f := by simpa using hfi
    rw [this]; rfl
  · rw [List.getElem?_map, List.getElem?_eq_getElem hi]; rfl

theorem arg_int {t : TypeId} {k : IntKind} {fuel : Nat} {cs : List Value} {x : DataW H × List MemPlace} (ht : P.underlying t = some (.int k)) (h : TrodA enc P w fuel t cs x) : ∃ n, cs = [.int k n] ∧ (Lit.int k n).wf = true :=
  let ⟨n, h1, _, h2⟩ := DataW.trod_int ht h
  ⟨n, h1, h2⟩
theorem arg_bool {t : TypeId} {fuel : Nat} {cs : List Value} {x : DataW H × List MemPlace} (ht : P.underlying t = some .bool) (h : TrodA enc P w fuel t cs x) : ∃ b, cs = [.bool b] :=
  let ⟨b, h1, _⟩ := DataW.trod_bool ht h
  ⟨b, h1⟩
theorem arg_string {t : TypeId} {fuel : Nat} {cs : List Value} {x : DataW H × List MemPlace} (ht : P.underlying t = some .string) (h : TrodA enc P w fuel t cs x) (hs : Sz P t x.1) : ∃ s : ByteArray, cs = [.string s] ∧ s.size ≤ 140737488351232 := by
  obtain ⟨s, h1, rfl, _⟩ := DataW.trod_string ht h
  refine ⟨s, h1, ?_⟩
  have := hs s.data.toList.length (by simp [DataW.weights])
  simpa using this
/-- A slice of integers: its elements. -/
theorem arg_ints {t e : TypeId} {k : IntKind} {fuel : Nat} {cs : List Value} {x : DataW H × List MemPlace} (ht : P.underlying t = some (.slice e)) (he : P.underlying e = some (.int k)) (hc : P.cellsOf e = 1) (h : TrodA enc P w fuel t cs x) (hs : Sz P t x.1) :
    ∃ (a : Option Addr) (cap : Nat) (xs : List Int), cs = [.slice a xs.length cap] ∧ xs.length ≤ cap ∧ cap * P.bytesOf e ≤ 140737488351232 ∧ Rd w a (xs.map (Value.int k)) ∧ ∀ n ∈ xs, (Lit.int k n).wf = true := by
  obtain ⟨a, len, cap, n, rfl, _, h1, _, h2, h3⟩ := arg_slice ht (by omega) h hs
  obtain ⟨f, hf⟩ := Deep.choose_lt (n := len) (p := fun i (z : Int) => (∃ g off, a = some ⟨g, off, none⟩ ∧ w.cell? ⟨g, off + i, none⟩ = some (.int k z)) ∧ (Lit.int k z).wf = true) (fun i hi => by
    obtain ⟨g, off, cs', y, ha, hl, hcell, ht', _⟩ := h3 i hi
    obtain ⟨z, rfl, hz⟩ := arg_int he ht'
    refine ⟨z, ⟨g, off, ha, ?_⟩, hz⟩
    have := hcell 0 (by omega)
    rw [hc] at this
    simpa using this)
  refine ⟨a, cap, (List.range len).map f, by simp, by simpa using h1, h2, fun j u hj => ?_, fun z hz => ?_⟩
  · simp only [List.map_map, List.getElem?_map] at hj
    by_cases hjl : j < len
    · rw [List.getElem?_range hjl] at hj
      simp only [Option.map_some, Function.comp, Option.some.injEq] at hj
      subst hj
      exact (hf j hjl).1
    · rw [List.getElem?_eq_none (by simp; omega)] at hj; cases hj
  · simp only [List.mem_map, List.mem_range] at hz
    obtain ⟨i, hi, rfl⟩ := hz
    exact (hf i hi).2
end
#print axioms arg_ints
end Go.Proofs.YtlgogflhjpcmlaaDoor
