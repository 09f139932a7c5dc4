/-
  A term that came in, read.
-/
import Derived.Test.YteaabbghnfideaaDoorTerm
import Derived.Test.YteaabbghnfideaaDoorTCopy
import Derived.Test.YteaabbghnfideaaDoorArg
namespace Go.Proofs.YteaabbghnfideaaDoor
open Go.RowKit
section
variable {H : Type} {enc : TypeId × Value → H} {w : World}
def TGood (w : World) (cs : List Value) (t : T) : Prop := TIn (heapOf w) t cs ∧ TOk t
theorem heap_cell {g i : Nat} {u : Value} (h : w.cell? ⟨g, i, none⟩ = some u) : cellIn (heapOf w) g i = some u := cellIn_heapOf h
theorem arg_terms_of {fuel : Nat} (ih : ∀ n, n < fuel → ∀ (cs : List Value) (x : DataW H × List MemPlace), TrodA enc Tryd.prog w n 25 cs x → Sz Tryd.prog 25 x.1 → ∃ t, TGood w cs t)
    {cs : List Value} {x : DataW H × List MemPlace} (h : TrodA enc Tryd.prog w fuel 22 cs x) (hs : Sz Tryd.prog 22 x.1) :
    ∃ (a : Option Addr) (c : Nat) (ts : List T), cs = [.slice a ts.length c] ∧ ts.length ≤ c ∧ c ≤ maxLen ∧ ts.length ≤ 1353245080300 ∧ LIn (heapOf w) ts a 0 ∧ ∀ t ∈ ts, TOk t := by
  have hc : Tryd.prog.cellsOf 25 = 6 := by kernel_rfl
  have hb : Tryd.prog.bytesOf 25 = 104 := by kernel_rfl
  obtain ⟨a, len, cap, n, rfl, hn, h1, hm, h2, h3⟩ := arg_slice Tryd.underlying22 (by rw [hc]; omega) h hs
  rw [hb] at h2
  haveI : Inhabited (T × List Value) := ⟨(.mk 0 0 ByteArray.empty [] [] [], [])⟩
  obtain ⟨f, hf⟩ := Deep.choose_lt (n := len) (p := fun i (z : T × List Value) => (∃ g off, a = some ⟨g, off, none⟩ ∧ ∀ k u, z.2[k]? = some u → w.cell? ⟨g, off + i * 6 + k, none⟩ = some u) ∧ TGood w z.2 z.1) (fun i hi => by
    obtain ⟨g, off, cs', y, ha, hl, hcell, ht', hz⟩ := h3 i hi
    obtain ⟨t, ht⟩ := ih n hn cs' y ht' hz
    rw [hc] at hcell hl
    refine ⟨(t, cs'), ⟨g, off, ha, fun k u hk => ?_⟩, ht⟩
    have hk6 : k < 6 := by
      have := (List.getElem?_eq_some_iff.1 hk).1
      simp only at this; omega
    rw [hcell k hk6]; exact hk)
  refine ⟨a, cap, (List.range len).map fun i => (f i).1, by simp, by simpa using h1, hm, by simp; omega, LIn.of_get fun j t hj => ?_, fun t ht => ?_⟩
  · have hjl : j < len := by
      have := (List.getElem?_eq_some_iff.1 hj).1
      simpa using this
    obtain ⟨⟨g, off, ha, hcell⟩, hg⟩ := hf j hjl
    have ht : t = (f j).1 := by
      simp [hjl] at hj
      exact hj.symm
    subst ht
    refine ⟨g, off, (f j).2, ha, fun k u hk => ?_, hg.1⟩
    rw [Nat.zero_add]
    exact heap_cell (hcell k u hk)
  · simp only [List.mem_map, List.mem_range] at ht
    obtain ⟨i, hi, rfl⟩ := ht
    exact (hf i hi).2.2
set_option maxRecDepth 100000 in
theorem arg_term : ∀ (fuel : Nat) (cs : List Value) (x : DataW H × List MemPlace), TrodA enc Tryd.prog w fuel 25 cs x → Sz Tryd.prog 25 x.1 → ∃ t, TGood w cs t := by
  intro fuel
  induction fuel using Nat.strongRecOn with
  | _ fuel ih =>
    intro cs x h hs
    obtain ⟨hl, n, hn, hf⟩ := arg_struct Tryd.underlying25 h hs
    have hc : Tryd.prog.cellsOf 25 = 6 := by kernel_rfl
    rw [hc] at hl
    match cs, hl with
    | [v0, v1, v2, v3, v4, v5], _ =>
      obtain ⟨y0, t0, _⟩ := hf 0 _ rfl
      obtain ⟨y1, t1, _⟩ := hf 1 _ rfl
      obtain ⟨y2, t2, z2⟩ := hf 2 _ rfl
      obtain ⟨y3, t3, z3⟩ := hf 3 _ rfl
      obtain ⟨y4, t4, z4⟩ := hf 4 _ rfl
      obtain ⟨y5, t5, z5⟩ := hf 5 _ rfl
      have k0 : Tryd.prog.cellsOf 3 = 1 := by kernel_rfl
      have k1 : Tryd.prog.cellsOf 2 = 1 := by kernel_rfl
      have k2 : Tryd.prog.cellsOf 9 = 1 := by kernel_rfl
      have k3 : Tryd.prog.cellsOf 22 = 1 := by kernel_rfl
      have k5 : Tryd.prog.cellsOf 23 = 1 := by kernel_rfl
      change TrodA enc Tryd.prog w n 3 (List.take (Tryd.prog.cellsOf 3) [v0, v1, v2, v3, v4, v5]) y0 at t0
      change TrodA enc Tryd.prog w n 2 (List.take (Tryd.prog.cellsOf 2) [v1, v2, v3, v4, v5]) y1 at t1
      change TrodA enc Tryd.prog w n 9 (List.take (Tryd.prog.cellsOf 9) [v2, v3, v4, v5]) y2 at t2
      change TrodA enc Tryd.prog w n 22 (List.take (Tryd.prog.cellsOf 22) [v3, v4, v5]) y3 at t3
      change TrodA enc Tryd.prog w n 22 (List.take (Tryd.prog.cellsOf 22) [v4, v5]) y4 at t4
      change TrodA enc Tryd.prog w n 23 (List.take (Tryd.prog.cellsOf 23) [v5]) y5 at t5
      rw [k0] at t0
      rw [k1] at t1
      rw [k2] at t2
      rw [k3] at t3 t4
      rw [k5] at t5
      obtain ⟨k, e0, w0⟩ := arg_int (k := .i64) Tryd.underlying3 t0
      obtain ⟨m, e1, w1⟩ := arg_int (k := .i64) Tryd.underlying2 t1
      obtain ⟨s, e2, hs2⟩ := arg_string Tryd.underlying9 t2 z2
      have ih' : ∀ n', n' < n → ∀ (cs : List Value) (x : DataW H × List MemPlace), TrodA enc Tryd.prog w n' 25 cs x → Sz Tryd.prog 25 x.1 → ∃ t, TGood w cs t := fun n' hn' cs x hx hz => ih n' (by omega) cs x hx hz
      obtain ⟨ia, ic, is, e3, li, mi, bi, qi, oi⟩ := arg_terms_of ih' t3 z3
      obtain ⟨ra, rc, rs, e4, lr, mr, br, qr, or⟩ := arg_terms_of ih' t4 z4
      have kb : Tryd.prog.cellsOf 5 = 1 := by kernel_rfl
      have bb : Tryd.prog.bytesOf 5 = 1 := by kernel_rfl
      obtain ⟨ba, bc, bs, e5, lb, cb, rb, ob⟩ := arg_ints (k := .u8) Tryd.underlying23 Tryd.underlying5 kb t5 z5
      rw [bb] at cb
      cases e0; cases e1; cases e2; cases e3; cases e4; cases e5
      have hm : bc ≤ maxLen := by unfold maxLen; omega
      refine ⟨.mk k m s is rs bs, TIn.of qi qr (Rd.heapOf rb) ⟨li, lr, lb, mi, mr, hm⟩, ?_⟩
      have iw : ∀ z, (Lit.int .i64 z).wf = true → fits z := fun z hz => by
        have hz' : (decide (-9223372036854775808 ≤ z) && decide (z ≤ 9223372036854775807)) = true := hz
        simpa [fits] using hz'
      unfold TOk
      refine ⟨iw k w0, iw m w1, hs2, bi, br, by omega, fun b hb => ?_, LOk.of oi, LOk.of or⟩
      have hz' : (decide (0 ≤ b) && decide (b ≤ 255)) = true := ob b hb
      simpa using hz'
end
#print axioms arg_term
end Go.Proofs.YteaabbghnfideaaDoor
