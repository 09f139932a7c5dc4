/-
  A spec that came in, read.
-/
import Derived.Test.YtfhjoidciaidlaaSpec
import Derived.Test.YtfhjoidciaidlaaArg
namespace Go.Proofs.Ytfhjoidciaidlaa
open Go.RowKit
section
variable {H : Type} {enc : TypeId × Value → H} {w : World}
theorem arg_chd {fuel : Nat} {cs : List Value} {x : DataW H × List MemPlace} (h : TrodA enc Try.prog w fuel 39 cs x) (hs : Sz Try.prog 39 x.1) : ∃ c : Chd, cs = c.vals ∧ c.f.size ≤ 140737488351232 := by
  obtain ⟨hl, n, _, hf⟩ := arg_struct Try.underlying39 h hs
  have hc : Try.prog.cellsOf 39 = 3 := by kernel_rfl
  rw [hc] at hl
  match cs, hl with
  | [v0, v1, v2], _ =>
    obtain ⟨y0, t0, z0⟩ := hf 0 _ rfl
    obtain ⟨y1, t1, _⟩ := hf 1 _ rfl
    obtain ⟨y2, t2, _⟩ := hf 2 _ rfl
    have k0 : Try.prog.cellsOf 9 = 1 := by kernel_rfl
    have k1 : Try.prog.cellsOf 3 = 1 := by kernel_rfl
    change TrodA enc Try.prog w n 9 (List.take (Try.prog.cellsOf 9) [v0, v1, v2]) y0 at t0
    change TrodA enc Try.prog w n 3 (List.take (Try.prog.cellsOf 3) [v1, v2]) y1 at t1
    change TrodA enc Try.prog w n 3 (List.take (Try.prog.cellsOf 3) [v2]) y2 at t2
    rw [k0] at t0
    rw [k1] at t1 t2
    obtain ⟨s, e0, hs0⟩ := arg_string Try.underlying9 t0 z0
    obtain ⟨a, e1, _⟩ := arg_int (k := .i64) Try.underlying3 t1
    obtain ⟨b, e2, _⟩ := arg_int (k := .i64) Try.underlying3 t2
    cases e0; cases e1; cases e2
    exact ⟨⟨s, a, b⟩, rfl, hs0⟩
theorem arg_chds {fuel : Nat} {cs : List Value} {x : DataW H × List MemPlace} (h : TrodA enc Try.prog w fuel 22 cs x) (hs : Sz Try.prog 22 x.1) : ∃ (a : Option Addr) (c : Nat) (l : List Chd), cs = [.slice a l.length c] ∧ l.length ≤ c ∧ c * 32 ≤ 140737488351232 ∧ Rd w a (chVals l) ∧ ∀ x ∈ l, x.f.size ≤ 140737488351232 := by
  have hc : Try.prog.cellsOf 39 = 3 := by kernel_rfl
  have hb : Try.prog.bytesOf 39 = 32 := by kernel_rfl
  obtain ⟨a, len, cap, n, rfl, _, h1, _, h2, h3⟩ := arg_slice Try.underlying22 (by rw [hc]; omega) h hs
  rw [hb] at h2
  haveI : Inhabited Chd := ⟨⟨ByteArray.empty, 0, 0⟩⟩
  obtain ⟨f, hf⟩ := Deep.choose_lt (n := len) (p := fun i (z : Chd) => (∃ g off, a = some ⟨g, off, none⟩ ∧ ∀ k, k < 3 → w.cell? ⟨g, off + i * 3 + k, none⟩ = z.vals[k]?) ∧ z.f.size ≤ 140737488351232) (fun i hi => by
    obtain ⟨g, off, cs', y, ha, hl, hcell, ht', hz⟩ := h3 i hi
    obtain ⟨z, rfl, hz⟩ := arg_chd ht' hz
    rw [hc] at hcell
    exact ⟨z, ⟨g, off, ha, hcell⟩, hz⟩)
  refine ⟨a, cap, (List.range len).map f, by simp, by simpa using h1, h2, fun j u hj => ?_, fun z hz => ?_⟩
  · have hlen : (chVals ((List.range len).map f)).length = len * 3 := by rw [chVals, flat_length lenChd]; simp
    have hjl := (List.getElem?_eq_some_iff.1 hj).1
    rw [hlen] at hjl
    have hi : j / 3 < len := by omega
    obtain ⟨⟨g, off, ha, hcell⟩, _⟩ := hf (j / 3) hi
    have hg := flat_get lenChd (l := (List.range len).map f) (k := j / 3) (x := f (j / 3)) (by simp [hi]) (j := j % 3) (by omega)
    have hjj : j / 3 * 3 + j % 3 = j := by omega
    rw [hjj] at hg
    unfold chVals at hj
    rw [hg] at hj
    refine ⟨g, off, ha, ?_⟩
    rw [← hj, ← hcell (j % 3) (by omega), Nat.add_assoc, hjj]
  · simp only [List.mem_map, List.mem_range] at hz
    obtain ⟨i, hi, rfl⟩ := hz
    exact (hf i hi).2
theorem arg_spec {fuel : Nat} {cs : List Value} {x : DataW H × List MemPlace} (h : TrodA enc Try.prog w fuel 24 cs x) (hs : Sz Try.prog 24 x.1) : ∃ (s : Sp) (a : Option Addr) (c : Nat), cs = [.int .i64 s.strat, .int .i64 s.m, .int .i64 s.t, .slice a s.ch.length c] ∧ s.ch.length ≤ c ∧ c * 32 ≤ 140737488351232 ∧ Rd w a (chVals s.ch) ∧ ∀ x ∈ s.ch, x.f.size ≤ 140737488351232 := by
  obtain ⟨hl, n, _, hf⟩ := arg_struct Try.underlying24 h hs
  have hc : Try.prog.cellsOf 24 = 4 := by kernel_rfl
  rw [hc] at hl
  match cs, hl with
  | [v0, v1, v2, v3], _ =>
    obtain ⟨y0, t0, _⟩ := hf 0 _ rfl
    obtain ⟨y1, t1, _⟩ := hf 1 _ rfl
    obtain ⟨y2, t2, _⟩ := hf 2 _ rfl
    obtain ⟨y3, t3, z3⟩ := hf 3 _ rfl
    have k0 : Try.prog.cellsOf 22 = 1 := by kernel_rfl
    have k1 : Try.prog.cellsOf 3 = 1 := by kernel_rfl
    change TrodA enc Try.prog w n 3 (List.take (Try.prog.cellsOf 3) [v0, v1, v2, v3]) y0 at t0
    change TrodA enc Try.prog w n 3 (List.take (Try.prog.cellsOf 3) [v1, v2, v3]) y1 at t1
    change TrodA enc Try.prog w n 3 (List.take (Try.prog.cellsOf 3) [v2, v3]) y2 at t2
    change TrodA enc Try.prog w n 22 (List.take (Try.prog.cellsOf 22) [v3]) y3 at t3
    rw [k1] at t0 t1 t2
    rw [k0] at t3
    obtain ⟨a, e0, _⟩ := arg_int (k := .i64) Try.underlying3 t0
    obtain ⟨b, e1, _⟩ := arg_int (k := .i64) Try.underlying3 t1
    obtain ⟨c, e2, _⟩ := arg_int (k := .i64) Try.underlying3 t2
    obtain ⟨ca, cc, l, e3, h1, h2, h3, h4⟩ := arg_chds t3 z3
    cases e0; cases e1; cases e2; cases e3
    exact ⟨⟨a, b, c, l⟩, ca, cc, rfl, h1, h2, h3, h4⟩
end
end Go.Proofs.Ytfhjoidciaidlaa
