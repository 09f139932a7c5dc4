/-
  bif: is; the law's do of one term. (Written by wip/gen/gen_bifk.py.)
-/
import Derived.Test.YtlgogflhjpcmlaaDoorBifO
namespace Go.Proofs.YtlgogflhjpcmlaaDoor
open Go.RowKit
set_option maxHeartbeats 4000000
set_option maxRecDepth 100000

def wantK : Nat → Int | 24 => 1 | 25 => 2 | 26 => 4 | 27 => 3 | 28 => 5 | 29 => 7 | _ => 8
/-- what 'is' answers -/
def isB (n : Nat) (k : Int) : Bool := k == wantK n || wantK n == 7 && k == 6
section
variable {W w : World} {L : List HP} {h : Nat → Option Obj} {cb : Nat}
theorem idx_24 (w : World) : (Instr.index 99 (.agg #[.int .i64 1, .int .i64 2, .int .i64 4, .int .i64 3, .int .i64 5, .int .i64 7, .int .i64 8]) (.int .i64 0)).run Tryd.prog w = .ok (.int .i64 1) w := by simp [Instr.index, run_underlying Tryd.underlying99, run_underlying Tryd.underlying3, asIntOf, go_sem]
theorem idx_25 (w : World) : (Instr.index 99 (.agg #[.int .i64 1, .int .i64 2, .int .i64 4, .int .i64 3, .int .i64 5, .int .i64 7, .int .i64 8]) (.int .i64 1)).run Tryd.prog w = .ok (.int .i64 2) w := by simp [Instr.index, run_underlying Tryd.underlying99, run_underlying Tryd.underlying3, asIntOf, go_sem]
theorem idx_26 (w : World) : (Instr.index 99 (.agg #[.int .i64 1, .int .i64 2, .int .i64 4, .int .i64 3, .int .i64 5, .int .i64 7, .int .i64 8]) (.int .i64 2)).run Tryd.prog w = .ok (.int .i64 4) w := by simp [Instr.index, run_underlying Tryd.underlying99, run_underlying Tryd.underlying3, asIntOf, go_sem]
theorem idx_27 (w : World) : (Instr.index 99 (.agg #[.int .i64 1, .int .i64 2, .int .i64 4, .int .i64 3, .int .i64 5, .int .i64 7, .int .i64 8]) (.int .i64 3)).run Tryd.prog w = .ok (.int .i64 3) w := by simp [Instr.index, run_underlying Tryd.underlying99, run_underlying Tryd.underlying3, asIntOf, go_sem]
theorem idx_28 (w : World) : (Instr.index 99 (.agg #[.int .i64 1, .int .i64 2, .int .i64 4, .int .i64 3, .int .i64 5, .int .i64 7, .int .i64 8]) (.int .i64 4)).run Tryd.prog w = .ok (.int .i64 5) w := by simp [Instr.index, run_underlying Tryd.underlying99, run_underlying Tryd.underlying3, asIntOf, go_sem]
theorem idx_29 (w : World) : (Instr.index 99 (.agg #[.int .i64 1, .int .i64 2, .int .i64 4, .int .i64 3, .int .i64 5, .int .i64 7, .int .i64 8]) (.int .i64 5)).run Tryd.prog w = .ok (.int .i64 7) w := by simp [Instr.index, run_underlying Tryd.underlying99, run_underlying Tryd.underlying3, asIntOf, go_sem]
theorem idx_30 (w : World) : (Instr.index 99 (.agg #[.int .i64 1, .int .i64 2, .int .i64 4, .int .i64 3, .int .i64 5, .int .i64 7, .int .i64 8]) (.int .i64 6)).run Tryd.prog w = .ok (.int .i64 8) w := by simp [Instr.index, run_underlying Tryd.underlying99, run_underlying Tryd.underlying3, asIntOf, go_sem]
theorem is_24 (S : Sat W w (arch h :: L)) (x : T) (hc : CArg h cb 24 [x]) :
    Calls Tryd.prog 55 #[.pointer (some ⟨cb, 0, none⟩)] w (MethP W L h (some (tTr (isB 24 x.k)))) := by
  obtain ⟨a, c, hcb, hl⟩ := hc
  obtain ⟨g, off, vs, rfl, hcx, hix⟩ := hl.get (j := 0) (t := x) rfl
  obtain ⟨ix, icx, rx, rcx, yx, ycx, rfl, _⟩ := id hix.vals
  have SS := hid (S.allocAt (k := w.heap.size) (.cells #[.int .i64 0, .int .i64 0, .string ⟨#[]⟩, .slice none 0 0, .slice none 0 0, .slice none 0 0] 35) rfl).swap
  have k0 := SS.out.archCell hcb 0
  have k1 := SS.out.archCell hcb 1
  have kx : World.cell? _ ⟨g, off, none⟩ = some (.int .i64 x.k) := cell_at SS.out hcx 0 rfl (by omega)
  simp only [List.getElem?_toArray, List.getElem?_cons_succ, List.getElem?_cons_zero, List.length_cons, List.length_nil] at k0 k1
  clear hcb hl hcx hix S
  cases b1 : (x.k == 1) with
  | true =>
    have e : tTr (isB 24 x.k) = tW ⟨#[116, 114, 117, 101]⟩ := by unfold isB wantK; simp only [b1, Bool.true_or]; rfl
    rw [e]
    clear e
    have HT := hid (truth_any SS.out true)
    rw [show (if (true : Bool) = true then sTrue else sFalse) = ⟨#[116, 114, 117, 101]⟩ from rfl] at HT
    have hidx := idx_24
    go_enter Tryd.func55, Tryd.ntmps55
    go_wp2_with fail
    refine HT.out.mono ?_
    rintro e w2 ⟨rfl, s2⟩
    have S3 := hid s2.swap
    have z0 : World.cell? w2 ⟨w.heap.size, 0, none⟩ = some (.int .i64 0) := S3.out.cell 0
    have f0 := S3.out.free 0
    have z1 : World.cell? w2 ⟨w.heap.size, 1, none⟩ = some (.int .i64 0) := S3.out.cell 1
    have f1 := S3.out.free 1
    have z2 : World.cell? w2 ⟨w.heap.size, 2, none⟩ = some (.string ⟨#[]⟩) := S3.out.cell 2
    have f2 := S3.out.free 2
    have z3 : World.cell? w2 ⟨w.heap.size, 3, none⟩ = some (.slice none 0 0) := S3.out.cell 3
    have f3 := S3.out.free 3
    have z4 : World.cell? w2 ⟨w.heap.size, 4, none⟩ = some (.slice none 0 0) := S3.out.cell 4
    have f4 := S3.out.free 4
    have z5 : World.cell? w2 ⟨w.heap.size, 5, none⟩ = some (.slice none 0 0) := S3.out.cell 5
    have f5 := S3.out.free 5
    clear s2 k0 k1 kx HT hidx
    go_wp2_with fail
    have s7 := ((((((S3.out.set 0 (.int .i64 2)).set 1 (.int .i64 0)).set 2 (.string ⟨#[116, 114, 117, 101]⟩)).set 3 (.slice none 0 0)).set 4 (.slice none 0 0)).set 5 (.slice none 0 0))
    refine bodyPost_ret (v := .tuple #[.agg #[.int .i64 2, .int .i64 0, .string ⟨#[116, 114, 117, 101]⟩, .slice none 0 0, .slice none 0 0, .slice none 0 0], .bool true]) (by simp [results, Tryd.results55, go_sem, z0, z1, z2, z3, z4, z5]) rfl ?_
    exact MethP.some' rfl (Le.refl _) s7.drop (in_W _ _)
  | false =>
    have e : tTr (isB 24 x.k) = tW ⟨#[102, 97, 108, 115, 101]⟩ := by unfold isB wantK; simp only [b1, Bool.false_or, show ((1 : Int) == 7) = false from by decide, Bool.false_and]; rfl
    rw [e]
    clear e
    have HT := hid (truth_any SS.out false)
    rw [show (if (false : Bool) = true then sTrue else sFalse) = ⟨#[102, 97, 108, 115, 101]⟩ from rfl] at HT
    have hidx := idx_24
    go_enter Tryd.func55, Tryd.ntmps55
    go_wp2_with fail
    refine HT.out.mono ?_
    rintro e w2 ⟨rfl, s2⟩
    have S3 := hid s2.swap
    have z0 : World.cell? w2 ⟨w.heap.size, 0, none⟩ = some (.int .i64 0) := S3.out.cell 0
    have f0 := S3.out.free 0
    have z1 : World.cell? w2 ⟨w.heap.size, 1, none⟩ = some (.int .i64 0) := S3.out.cell 1
    have f1 := S3.out.free 1
    have z2 : World.cell? w2 ⟨w.heap.size, 2, none⟩ = some (.string ⟨#[]⟩) := S3.out.cell 2
    have f2 := S3.out.free 2
    have z3 : World.cell? w2 ⟨w.heap.size, 3, none⟩ = some (.slice none 0 0) := S3.out.cell 3
    have f3 := S3.out.free 3
    have z4 : World.cell? w2 ⟨w.heap.size, 4, none⟩ = some (.slice none 0 0) := S3.out.cell 4
    have f4 := S3.out.free 4
    have z5 : World.cell? w2 ⟨w.heap.size, 5, none⟩ = some (.slice none 0 0) := S3.out.cell 5
    have f5 := S3.out.free 5
    clear s2 k0 k1 kx HT hidx
    go_wp2_with fail
    have s7 := ((((((S3.out.set 0 (.int .i64 2)).set 1 (.int .i64 0)).set 2 (.string ⟨#[102, 97, 108, 115, 101]⟩)).set 3 (.slice none 0 0)).set 4 (.slice none 0 0)).set 5 (.slice none 0 0))
    refine bodyPost_ret (v := .tuple #[.agg #[.int .i64 2, .int .i64 0, .string ⟨#[102, 97, 108, 115, 101]⟩, .slice none 0 0, .slice none 0 0, .slice none 0 0], .bool true]) (by simp [results, Tryd.results55, go_sem, z0, z1, z2, z3, z4, z5]) rfl ?_
    exact MethP.some' rfl (Le.refl _) s7.drop (in_W _ _)
theorem fnk_is_int : FnOk 24 ⟨#[105, 115, 95, 105, 110, 116]⟩ 1 (some 55) := ⟨by decide +kernel, [105, 115, 95, 105, 110, 116, 49], 6, rfl, rfl, by decide, by decide, by decide +kernel, by intro f hf args w; cases hf; exact callFunc_enter Tryd.func55 (by kernel_rfl) rfl args w⟩
theorem is_25 (S : Sat W w (arch h :: L)) (x : T) (hc : CArg h cb 25 [x]) :
    Calls Tryd.prog 55 #[.pointer (some ⟨cb, 0, none⟩)] w (MethP W L h (some (tTr (isB 25 x.k)))) := by
  obtain ⟨a, c, hcb, hl⟩ := hc
  obtain ⟨g, off, vs, rfl, hcx, hix⟩ := hl.get (j := 0) (t := x) rfl
  obtain ⟨ix, icx, rx, rcx, yx, ycx, rfl, _⟩ := id hix.vals
  have SS := hid (S.allocAt (k := w.heap.size) (.cells #[.int .i64 0, .int .i64 0, .string ⟨#[]⟩, .slice none 0 0, .slice none 0 0, .slice none 0 0] 35) rfl).swap
  have k0 := SS.out.archCell hcb 0
  have k1 := SS.out.archCell hcb 1
  have kx : World.cell? _ ⟨g, off, none⟩ = some (.int .i64 x.k) := cell_at SS.out hcx 0 rfl (by omega)
  simp only [List.getElem?_toArray, List.getElem?_cons_succ, List.getElem?_cons_zero, List.length_cons, List.length_nil] at k0 k1
  clear hcb hl hcx hix S
  cases b1 : (x.k == 2) with
  | true =>
    have e : tTr (isB 25 x.k) = tW ⟨#[116, 114, 117, 101]⟩ := by unfold isB wantK; simp only [b1, Bool.true_or]; rfl
    rw [e]
    clear e
    have HT := hid (truth_any SS.out true)
    rw [show (if (true : Bool) = true then sTrue else sFalse) = ⟨#[116, 114, 117, 101]⟩ from rfl] at HT
    have hidx := idx_25
    go_enter Tryd.func55, Tryd.ntmps55
    go_wp2_with fail
    refine HT.out.mono ?_
    rintro e w2 ⟨rfl, s2⟩
    have S3 := hid s2.swap
    have z0 : World.cell? w2 ⟨w.heap.size, 0, none⟩ = some (.int .i64 0) := S3.out.cell 0
    have f0 := S3.out.free 0
    have z1 : World.cell? w2 ⟨w.heap.size, 1, none⟩ = some (.int .i64 0) := S3.out.cell 1
    have f1 := S3.out.free 1
    have z2 : World.cell? w2 ⟨w.heap.size, 2, none⟩ = some (.string ⟨#[]⟩) := S3.out.cell 2
    have f2 := S3.out.free 2
    have z3 : World.cell? w2 ⟨w.heap.size, 3, none⟩ = some (.slice none 0 0) := S3.out.cell 3
    have f3 := S3.out.free 3
    have z4 : World.cell? w2 ⟨w.heap.size, 4, none⟩ = some (.slice none 0 0) := S3.out.cell 4
    have f4 := S3.out.free 4
    have z5 : World.cell? w2 ⟨w.heap.size, 5, none⟩ = some (.slice none 0 0) := S3.out.cell 5
    have f5 := S3.out.free 5
    clear s2 k0 k1 kx HT hidx
    go_wp2_with fail
    have s7 := ((((((S3.out.set 0 (.int .i64 2)).set 1 (.int .i64 0)).set 2 (.string ⟨#[116, 114, 117, 101]⟩)).set 3 (.slice none 0 0)).set 4 (.slice none 0 0)).set 5 (.slice none 0 0))
    refine bodyPost_ret (v := .tuple #[.agg #[.int .i64 2, .int .i64 0, .string ⟨#[116, 114, 117, 101]⟩, .slice none 0 0, .slice none 0 0, .slice none 0 0], .bool true]) (by simp [results, Tryd.results55, go_sem, z0, z1, z2, z3, z4, z5]) rfl ?_
    exact MethP.some' rfl (Le.refl _) s7.drop (in_W _ _)
  | false =>
    have e : tTr (isB 25 x.k) = tW ⟨#[102, 97, 108, 115, 101]⟩ := by unfold isB wantK; simp only [b1, Bool.false_or, show ((2 : Int) == 7) = false from by decide, Bool.false_and]; rfl
    rw [e]
    clear e
    have HT := hid (truth_any SS.out false)
    rw [show (if (false : Bool) = true then sTrue else sFalse) = ⟨#[102, 97, 108, 115, 101]⟩ from rfl] at HT
    have hidx := idx_25
    go_enter Tryd.func55, Tryd.ntmps55
    go_wp2_with fail
    refine HT.out.mono ?_
    rintro e w2 ⟨rfl, s2⟩
    have S3 := hid s2.swap
    have z0 : World.cell? w2 ⟨w.heap.size, 0, none⟩ = some (.int .i64 0) := S3.out.cell 0
    have f0 := S3.out.free 0
    have z1 : World.cell? w2 ⟨w.heap.size, 1, none⟩ = some (.int .i64 0) := S3.out.cell 1
    have f1 := S3.out.free 1
    have z2 : World.cell? w2 ⟨w.heap.size, 2, none⟩ = some (.string ⟨#[]⟩) := S3.out.cell 2
    have f2 := S3.out.free 2
    have z3 : World.cell? w2 ⟨w.heap.size, 3, none⟩ = some (.slice none 0 0) := S3.out.cell 3
    have f3 := S3.out.free 3
    have z4 : World.cell? w2 ⟨w.heap.size, 4, none⟩ = some (.slice none 0 0) := S3.out.cell 4
    have f4 := S3.out.free 4
    have z5 : World.cell? w2 ⟨w.heap.size, 5, none⟩ = some (.slice none 0 0) := S3.out.cell 5
    have f5 := S3.out.free 5
    clear s2 k0 k1 kx HT hidx
    go_wp2_with fail
    have s7 := ((((((S3.out.set 0 (.int .i64 2)).set 1 (.int .i64 0)).set 2 (.string ⟨#[102, 97, 108, 115, 101]⟩)).set 3 (.slice none 0 0)).set 4 (.slice none 0 0)).set 5 (.slice none 0 0))
    refine bodyPost_ret (v := .tuple #[.agg #[.int .i64 2, .int .i64 0, .string ⟨#[102, 97, 108, 115, 101]⟩, .slice none 0 0, .slice none 0 0, .slice none 0 0], .bool true]) (by simp [results, Tryd.results55, go_sem, z0, z1, z2, z3, z4, z5]) rfl ?_
    exact MethP.some' rfl (Le.refl _) s7.drop (in_W _ _)
theorem fnk_is_atom : FnOk 25 ⟨#[105, 115, 95, 97, 116, 111, 109]⟩ 1 (some 55) := ⟨by decide +kernel, [105, 115, 95, 97, 116, 111, 109, 49], 7, rfl, rfl, by decide, by decide, by decide +kernel, by intro f hf args w; cases hf; exact callFunc_enter Tryd.func55 (by kernel_rfl) rfl args w⟩
theorem is_26 (S : Sat W w (arch h :: L)) (x : T) (hc : CArg h cb 26 [x]) :
    Calls Tryd.prog 55 #[.pointer (some ⟨cb, 0, none⟩)] w (MethP W L h (some (tTr (isB 26 x.k)))) := by
  obtain ⟨a, c, hcb, hl⟩ := hc
  obtain ⟨g, off, vs, rfl, hcx, hix⟩ := hl.get (j := 0) (t := x) rfl
  obtain ⟨ix, icx, rx, rcx, yx, ycx, rfl, _⟩ := id hix.vals
  have SS := hid (S.allocAt (k := w.heap.size) (.cells #[.int .i64 0, .int .i64 0, .string ⟨#[]⟩, .slice none 0 0, .slice none 0 0, .slice none 0 0] 35) rfl).swap
  have k0 := SS.out.archCell hcb 0
  have k1 := SS.out.archCell hcb 1
  have kx : World.cell? _ ⟨g, off, none⟩ = some (.int .i64 x.k) := cell_at SS.out hcx 0 rfl (by omega)
  simp only [List.getElem?_toArray, List.getElem?_cons_succ, List.getElem?_cons_zero, List.length_cons, List.length_nil] at k0 k1
  clear hcb hl hcx hix S
  cases b1 : (x.k == 4) with
  | true =>
    have e : tTr (isB 26 x.k) = tW ⟨#[116, 114, 117, 101]⟩ := by unfold isB wantK; simp only [b1, Bool.true_or]; rfl
    rw [e]
    clear e
    have HT := hid (truth_any SS.out true)
    rw [show (if (true : Bool) = true then sTrue else sFalse) = ⟨#[116, 114, 117, 101]⟩ from rfl] at HT
    have hidx := idx_26
    go_enter Tryd.func55, Tryd.ntmps55
    go_wp2_with fail
    refine HT.out.mono ?_
    rintro e w2 ⟨rfl, s2⟩
    have S3 := hid s2.swap
    have z0 : World.cell? w2 ⟨w.heap.size, 0, none⟩ = some (.int .i64 0) := S3.out.cell 0
    have f0 := S3.out.free 0
    have z1 : World.cell? w2 ⟨w.heap.size, 1, none⟩ = some (.int .i64 0) := S3.out.cell 1
    have f1 := S3.out.free 1
    have z2 : World.cell? w2 ⟨w.heap.size, 2, none⟩ = some (.string ⟨#[]⟩) := S3.out.cell 2
    have f2 := S3.out.free 2
    have z3 : World.cell? w2 ⟨w.heap.size, 3, none⟩ = some (.slice none 0 0) := S3.out.cell 3
    have f3 := S3.out.free 3
    have z4 : World.cell? w2 ⟨w.heap.size, 4, none⟩ = some (.slice none 0 0) := S3.out.cell 4
    have f4 := S3.out.free 4
    have z5 : World.cell? w2 ⟨w.heap.size, 5, none⟩ = some (.slice none 0 0) := S3.out.cell 5
    have f5 := S3.out.free 5
    clear s2 k0 k1 kx HT hidx
    go_wp2_with fail
    have s7 := ((((((S3.out.set 0 (.int .i64 2)).set 1 (.int .i64 0)).set 2 (.string ⟨#[116, 114, 117, 101]⟩)).set 3 (.slice none 0 0)).set 4 (.slice none 0 0)).set 5 (.slice none 0 0))
    refine bodyPost_ret (v := .tuple #[.agg #[.int .i64 2, .int .i64 0, .string ⟨#[116, 114, 117, 101]⟩, .slice none 0 0, .slice none 0 0, .slice none 0 0], .bool true]) (by simp [results, Tryd.results55, go_sem, z0, z1, z2, z3, z4, z5]) rfl ?_
    exact MethP.some' rfl (Le.refl _) s7.drop (in_W _ _)
  | false =>
    have e : tTr (isB 26 x.k) = tW ⟨#[102, 97, 108, 115, 101]⟩ := by unfold isB wantK; simp only [b1, Bool.false_or, show ((4 : Int) == 7) = false from by decide, Bool.false_and]; rfl
    rw [e]
    clear e
    have HT := hid (truth_any SS.out false)
    rw [show (if (false : Bool) = true then sTrue else sFalse) = ⟨#[102, 97, 108, 115, 101]⟩ from rfl] at HT
    have hidx := idx_26
    go_enter Tryd.func55, Tryd.ntmps55
    go_wp2_with fail
    refine HT.out.mono ?_
    rintro e w2 ⟨rfl, s2⟩
    have S3 := hid s2.swap
    have z0 : World.cell? w2 ⟨w.heap.size, 0, none⟩ = some (.int .i64 0) := S3.out.cell 0
    have f0 := S3.out.free 0
    have z1 : World.cell? w2 ⟨w.heap.size, 1, none⟩ = some (.int .i64 0) := S3.out.cell 1
    have f1 := S3.out.free 1
    have z2 : World.cell? w2 ⟨w.heap.size, 2, none⟩ = some (.string ⟨#[]⟩) := S3.out.cell 2
    have f2 := S3.out.free 2
    have z3 : World.cell? w2 ⟨w.heap.size, 3, none⟩ = some (.slice none 0 0) := S3.out.cell 3
    have f3 := S3.out.free 3
    have z4 : World.cell? w2 ⟨w.heap.size, 4, none⟩ = some (.slice none 0 0) := S3.out.cell 4
    have f4 := S3.out.free 4
    have z5 : World.cell? w2 ⟨w.heap.size, 5, none⟩ = some (.slice none 0 0) := S3.out.cell 5
    have f5 := S3.out.free 5
    clear s2 k0 k1 kx HT hidx
    go_wp2_with fail
    have s7 := ((((((S3.out.set 0 (.int .i64 2)).set 1 (.int .i64 0)).set 2 (.string ⟨#[102, 97, 108, 115, 101]⟩)).set 3 (.slice none 0 0)).set 4 (.slice none 0 0)).set 5 (.slice none 0 0))
    refine bodyPost_ret (v := .tuple #[.agg #[.int .i64 2, .int .i64 0, .string ⟨#[102, 97, 108, 115, 101]⟩, .slice none 0 0, .slice none 0 0, .slice none 0 0], .bool true]) (by simp [results, Tryd.results55, go_sem, z0, z1, z2, z3, z4, z5]) rfl ?_
    exact MethP.some' rfl (Le.refl _) s7.drop (in_W _ _)
theorem fnk_is_pid : FnOk 26 ⟨#[105, 115, 95, 112, 105, 100]⟩ 1 (some 55) := ⟨by decide +kernel, [105, 115, 95, 112, 105, 100, 49], 6, rfl, rfl, by decide, by decide, by decide +kernel, by intro f hf args w; cases hf; exact callFunc_enter Tryd.func55 (by kernel_rfl) rfl args w⟩
theorem is_27 (S : Sat W w (arch h :: L)) (x : T) (hc : CArg h cb 27 [x]) :
    Calls Tryd.prog 55 #[.pointer (some ⟨cb, 0, none⟩)] w (MethP W L h (some (tTr (isB 27 x.k)))) := by
  obtain ⟨a, c, hcb, hl⟩ := hc
  obtain ⟨g, off, vs, rfl, hcx, hix⟩ := hl.get (j := 0) (t := x) rfl
  obtain ⟨ix, icx, rx, rcx, yx, ycx, rfl, _⟩ := id hix.vals
  have SS := hid (S.allocAt (k := w.heap.size) (.cells #[.int .i64 0, .int .i64 0, .string ⟨#[]⟩, .slice none 0 0, .slice none 0 0, .slice none 0 0] 35) rfl).swap
  have k0 := SS.out.archCell hcb 0
  have k1 := SS.out.archCell hcb 1
  have kx : World.cell? _ ⟨g, off, none⟩ = some (.int .i64 x.k) := cell_at SS.out hcx 0 rfl (by omega)
  simp only [List.getElem?_toArray, List.getElem?_cons_succ, List.getElem?_cons_zero, List.length_cons, List.length_nil] at k0 k1
  clear hcb hl hcx hix S
  cases b1 : (x.k == 3) with
  | true =>
    have e : tTr (isB 27 x.k) = tW ⟨#[116, 114, 117, 101]⟩ := by unfold isB wantK; simp only [b1, Bool.true_or]; rfl
    rw [e]
    clear e
    have HT := hid (truth_any SS.out true)
    rw [show (if (true : Bool) = true then sTrue else sFalse) = ⟨#[116, 114, 117, 101]⟩ from rfl] at HT
    have hidx := idx_27
    go_enter Tryd.func55, Tryd.ntmps55
    go_wp2_with fail
    refine HT.out.mono ?_
    rintro e w2 ⟨rfl, s2⟩
    have S3 := hid s2.swap
    have z0 : World.cell? w2 ⟨w.heap.size, 0, none⟩ = some (.int .i64 0) := S3.out.cell 0
    have f0 := S3.out.free 0
    have z1 : World.cell? w2 ⟨w.heap.size, 1, none⟩ = some (.int .i64 0) := S3.out.cell 1
    have f1 := S3.out.free 1
    have z2 : World.cell? w2 ⟨w.heap.size, 2, none⟩ = some (.string ⟨#[]⟩) := S3.out.cell 2
    have f2 := S3.out.free 2
    have z3 : World.cell? w2 ⟨w.heap.size, 3, none⟩ = some (.slice none 0 0) := S3.out.cell 3
    have f3 := S3.out.free 3
    have z4 : World.cell? w2 ⟨w.heap.size, 4, none⟩ = some (.slice none 0 0) := S3.out.cell 4
    have f4 := S3.out.free 4
    have z5 : World.cell? w2 ⟨w.heap.size, 5, none⟩ = some (.slice none 0 0) := S3.out.cell 5
    have f5 := S3.out.free 5
    clear s2 k0 k1 kx HT hidx
    go_wp2_with fail
    have s7 := ((((((S3.out.set 0 (.int .i64 2)).set 1 (.int .i64 0)).set 2 (.string ⟨#[116, 114, 117, 101]⟩)).set 3 (.slice none 0 0)).set 4 (.slice none 0 0)).set 5 (.slice none 0 0))
    refine bodyPost_ret (v := .tuple #[.agg #[.int .i64 2, .int .i64 0, .string ⟨#[116, 114, 117, 101]⟩, .slice none 0 0, .slice none 0 0, .slice none 0 0], .bool true]) (by simp [results, Tryd.results55, go_sem, z0, z1, z2, z3, z4, z5]) rfl ?_
    exact MethP.some' rfl (Le.refl _) s7.drop (in_W _ _)
  | false =>
    have e : tTr (isB 27 x.k) = tW ⟨#[102, 97, 108, 115, 101]⟩ := by unfold isB wantK; simp only [b1, Bool.false_or, show ((3 : Int) == 7) = false from by decide, Bool.false_and]; rfl
    rw [e]
    clear e
    have HT := hid (truth_any SS.out false)
    rw [show (if (false : Bool) = true then sTrue else sFalse) = ⟨#[102, 97, 108, 115, 101]⟩ from rfl] at HT
    have hidx := idx_27
    go_enter Tryd.func55, Tryd.ntmps55
    go_wp2_with fail
    refine HT.out.mono ?_
    rintro e w2 ⟨rfl, s2⟩
    have S3 := hid s2.swap
    have z0 : World.cell? w2 ⟨w.heap.size, 0, none⟩ = some (.int .i64 0) := S3.out.cell 0
    have f0 := S3.out.free 0
    have z1 : World.cell? w2 ⟨w.heap.size, 1, none⟩ = some (.int .i64 0) := S3.out.cell 1
    have f1 := S3.out.free 1
    have z2 : World.cell? w2 ⟨w.heap.size, 2, none⟩ = some (.string ⟨#[]⟩) := S3.out.cell 2
    have f2 := S3.out.free 2
    have z3 : World.cell? w2 ⟨w.heap.size, 3, none⟩ = some (.slice none 0 0) := S3.out.cell 3
    have f3 := S3.out.free 3
    have z4 : World.cell? w2 ⟨w.heap.size, 4, none⟩ = some (.slice none 0 0) := S3.out.cell 4
    have f4 := S3.out.free 4
    have z5 : World.cell? w2 ⟨w.heap.size, 5, none⟩ = some (.slice none 0 0) := S3.out.cell 5
    have f5 := S3.out.free 5
    clear s2 k0 k1 kx HT hidx
    go_wp2_with fail
    have s7 := ((((((S3.out.set 0 (.int .i64 2)).set 1 (.int .i64 0)).set 2 (.string ⟨#[102, 97, 108, 115, 101]⟩)).set 3 (.slice none 0 0)).set 4 (.slice none 0 0)).set 5 (.slice none 0 0))
    refine bodyPost_ret (v := .tuple #[.agg #[.int .i64 2, .int .i64 0, .string ⟨#[102, 97, 108, 115, 101]⟩, .slice none 0 0, .slice none 0 0, .slice none 0 0], .bool true]) (by simp [results, Tryd.results55, go_sem, z0, z1, z2, z3, z4, z5]) rfl ?_
    exact MethP.some' rfl (Le.refl _) s7.drop (in_W _ _)
theorem fnk_is_ref : FnOk 27 ⟨#[105, 115, 95, 114, 101, 102]⟩ 1 (some 55) := ⟨by decide +kernel, [105, 115, 95, 114, 101, 102, 49], 6, rfl, rfl, by decide, by decide, by decide +kernel, by intro f hf args w; cases hf; exact callFunc_enter Tryd.func55 (by kernel_rfl) rfl args w⟩
theorem is_28 (S : Sat W w (arch h :: L)) (x : T) (hc : CArg h cb 28 [x]) :
    Calls Tryd.prog 55 #[.pointer (some ⟨cb, 0, none⟩)] w (MethP W L h (some (tTr (isB 28 x.k)))) := by
  obtain ⟨a, c, hcb, hl⟩ := hc
  obtain ⟨g, off, vs, rfl, hcx, hix⟩ := hl.get (j := 0) (t := x) rfl
  obtain ⟨ix, icx, rx, rcx, yx, ycx, rfl, _⟩ := id hix.vals
  have SS := hid (S.allocAt (k := w.heap.size) (.cells #[.int .i64 0, .int .i64 0, .string ⟨#[]⟩, .slice none 0 0, .slice none 0 0, .slice none 0 0] 35) rfl).swap
  have k0 := SS.out.archCell hcb 0
  have k1 := SS.out.archCell hcb 1
  have kx : World.cell? _ ⟨g, off, none⟩ = some (.int .i64 x.k) := cell_at SS.out hcx 0 rfl (by omega)
  simp only [List.getElem?_toArray, List.getElem?_cons_succ, List.getElem?_cons_zero, List.length_cons, List.length_nil] at k0 k1
  clear hcb hl hcx hix S
  cases b1 : (x.k == 5) with
  | true =>
    have e : tTr (isB 28 x.k) = tW ⟨#[116, 114, 117, 101]⟩ := by unfold isB wantK; simp only [b1, Bool.true_or]; rfl
    rw [e]
    clear e
    have HT := hid (truth_any SS.out true)
    rw [show (if (true : Bool) = true then sTrue else sFalse) = ⟨#[116, 114, 117, 101]⟩ from rfl] at HT
    have hidx := idx_28
    go_enter Tryd.func55, Tryd.ntmps55
    go_wp2_with fail
    refine HT.out.mono ?_
    rintro e w2 ⟨rfl, s2⟩
    have S3 := hid s2.swap
    have z0 : World.cell? w2 ⟨w.heap.size, 0, none⟩ = some (.int .i64 0) := S3.out.cell 0
    have f0 := S3.out.free 0
    have z1 : World.cell? w2 ⟨w.heap.size, 1, none⟩ = some (.int .i64 0) := S3.out.cell 1
    have f1 := S3.out.free 1
    have z2 : World.cell? w2 ⟨w.heap.size, 2, none⟩ = some (.string ⟨#[]⟩) := S3.out.cell 2
    have f2 := S3.out.free 2
    have z3 : World.cell? w2 ⟨w.heap.size, 3, none⟩ = some (.slice none 0 0) := S3.out.cell 3
    have f3 := S3.out.free 3
    have z4 : World.cell? w2 ⟨w.heap.size, 4, none⟩ = some (.slice none 0 0) := S3.out.cell 4
    have f4 := S3.out.free 4
    have z5 : World.cell? w2 ⟨w.heap.size, 5, none⟩ = some (.slice none 0 0) := S3.out.cell 5
    have f5 := S3.out.free 5
    clear s2 k0 k1 kx HT hidx
    go_wp2_with fail
    have s7 := ((((((S3.out.set 0 (.int .i64 2)).set 1 (.int .i64 0)).set 2 (.string ⟨#[116, 114, 117, 101]⟩)).set 3 (.slice none 0 0)).set 4 (.slice none 0 0)).set 5 (.slice none 0 0))
    refine bodyPost_ret (v := .tuple #[.agg #[.int .i64 2, .int .i64 0, .string ⟨#[116, 114, 117, 101]⟩, .slice none 0 0, .slice none 0 0, .slice none 0 0], .bool true]) (by simp [results, Tryd.results55, go_sem, z0, z1, z2, z3, z4, z5]) rfl ?_
    exact MethP.some' rfl (Le.refl _) s7.drop (in_W _ _)
  | false =>
    have e : tTr (isB 28 x.k) = tW ⟨#[102, 97, 108, 115, 101]⟩ := by unfold isB wantK; simp only [b1, Bool.false_or, show ((5 : Int) == 7) = false from by decide, Bool.false_and]; rfl
    rw [e]
    clear e
    have HT := hid (truth_any SS.out false)
    rw [show (if (false : Bool) = true then sTrue else sFalse) = ⟨#[102, 97, 108, 115, 101]⟩ from rfl] at HT
    have hidx := idx_28
    go_enter Tryd.func55, Tryd.ntmps55
    go_wp2_with fail
    refine HT.out.mono ?_
    rintro e w2 ⟨rfl, s2⟩
    have S3 := hid s2.swap
    have z0 : World.cell? w2 ⟨w.heap.size, 0, none⟩ = some (.int .i64 0) := S3.out.cell 0
    have f0 := S3.out.free 0
    have z1 : World.cell? w2 ⟨w.heap.size, 1, none⟩ = some (.int .i64 0) := S3.out.cell 1
    have f1 := S3.out.free 1
    have z2 : World.cell? w2 ⟨w.heap.size, 2, none⟩ = some (.string ⟨#[]⟩) := S3.out.cell 2
    have f2 := S3.out.free 2
    have z3 : World.cell? w2 ⟨w.heap.size, 3, none⟩ = some (.slice none 0 0) := S3.out.cell 3
    have f3 := S3.out.free 3
    have z4 : World.cell? w2 ⟨w.heap.size, 4, none⟩ = some (.slice none 0 0) := S3.out.cell 4
    have f4 := S3.out.free 4
    have z5 : World.cell? w2 ⟨w.heap.size, 5, none⟩ = some (.slice none 0 0) := S3.out.cell 5
    have f5 := S3.out.free 5
    clear s2 k0 k1 kx HT hidx
    go_wp2_with fail
    have s7 := ((((((S3.out.set 0 (.int .i64 2)).set 1 (.int .i64 0)).set 2 (.string ⟨#[102, 97, 108, 115, 101]⟩)).set 3 (.slice none 0 0)).set 4 (.slice none 0 0)).set 5 (.slice none 0 0))
    refine bodyPost_ret (v := .tuple #[.agg #[.int .i64 2, .int .i64 0, .string ⟨#[102, 97, 108, 115, 101]⟩, .slice none 0 0, .slice none 0 0, .slice none 0 0], .bool true]) (by simp [results, Tryd.results55, go_sem, z0, z1, z2, z3, z4, z5]) rfl ?_
    exact MethP.some' rfl (Le.refl _) s7.drop (in_W _ _)
theorem fnk_is_tuple : FnOk 28 ⟨#[105, 115, 95, 116, 117, 112, 108, 101]⟩ 1 (some 55) := ⟨by decide +kernel, [105, 115, 95, 116, 117, 112, 108, 101, 49], 8, rfl, rfl, by decide, by decide, by decide +kernel, by intro f hf args w; cases hf; exact callFunc_enter Tryd.func55 (by kernel_rfl) rfl args w⟩
theorem is_29 (S : Sat W w (arch h :: L)) (x : T) (hc : CArg h cb 29 [x]) :
    Calls Tryd.prog 55 #[.pointer (some ⟨cb, 0, none⟩)] w (MethP W L h (some (tTr (isB 29 x.k)))) := by
  obtain ⟨a, c, hcb, hl⟩ := hc
  obtain ⟨g, off, vs, rfl, hcx, hix⟩ := hl.get (j := 0) (t := x) rfl
  obtain ⟨ix, icx, rx, rcx, yx, ycx, rfl, _⟩ := id hix.vals
  have SS := hid (S.allocAt (k := w.heap.size) (.cells #[.int .i64 0, .int .i64 0, .string ⟨#[]⟩, .slice none 0 0, .slice none 0 0, .slice none 0 0] 35) rfl).swap
  have k0 := SS.out.archCell hcb 0
  have k1 := SS.out.archCell hcb 1
  have kx : World.cell? _ ⟨g, off, none⟩ = some (.int .i64 x.k) := cell_at SS.out hcx 0 rfl (by omega)
  simp only [List.getElem?_toArray, List.getElem?_cons_succ, List.getElem?_cons_zero, List.length_cons, List.length_nil] at k0 k1
  clear hcb hl hcx hix S
  cases b1 : (x.k == 7) with
  | true =>
    have e : tTr (isB 29 x.k) = tW ⟨#[116, 114, 117, 101]⟩ := by unfold isB wantK; simp only [b1, Bool.true_or]; rfl
    rw [e]
    clear e
    have HT := hid (truth_any SS.out true)
    rw [show (if (true : Bool) = true then sTrue else sFalse) = ⟨#[116, 114, 117, 101]⟩ from rfl] at HT
    have hidx := idx_29
    go_enter Tryd.func55, Tryd.ntmps55
    go_wp2_with fail
    refine HT.out.mono ?_
    rintro e w2 ⟨rfl, s2⟩
    have S3 := hid s2.swap
    have z0 : World.cell? w2 ⟨w.heap.size, 0, none⟩ = some (.int .i64 0) := S3.out.cell 0
    have f0 := S3.out.free 0
    have z1 : World.cell? w2 ⟨w.heap.size, 1, none⟩ = some (.int .i64 0) := S3.out.cell 1
    have f1 := S3.out.free 1
    have z2 : World.cell? w2 ⟨w.heap.size, 2, none⟩ = some (.string ⟨#[]⟩) := S3.out.cell 2
    have f2 := S3.out.free 2
    have z3 : World.cell? w2 ⟨w.heap.size, 3, none⟩ = some (.slice none 0 0) := S3.out.cell 3
    have f3 := S3.out.free 3
    have z4 : World.cell? w2 ⟨w.heap.size, 4, none⟩ = some (.slice none 0 0) := S3.out.cell 4
    have f4 := S3.out.free 4
    have z5 : World.cell? w2 ⟨w.heap.size, 5, none⟩ = some (.slice none 0 0) := S3.out.cell 5
    have f5 := S3.out.free 5
    clear s2 k0 k1 kx HT hidx
    go_wp2_with fail
    have s7 := ((((((S3.out.set 0 (.int .i64 2)).set 1 (.int .i64 0)).set 2 (.string ⟨#[116, 114, 117, 101]⟩)).set 3 (.slice none 0 0)).set 4 (.slice none 0 0)).set 5 (.slice none 0 0))
    refine bodyPost_ret (v := .tuple #[.agg #[.int .i64 2, .int .i64 0, .string ⟨#[116, 114, 117, 101]⟩, .slice none 0 0, .slice none 0 0, .slice none 0 0], .bool true]) (by simp [results, Tryd.results55, go_sem, z0, z1, z2, z3, z4, z5]) rfl ?_
    exact MethP.some' rfl (Le.refl _) s7.drop (in_W _ _)
  | false =>
    cases b2 : (x.k == 6) with
    | true =>
      have e : tTr (isB 29 x.k) = tW ⟨#[116, 114, 117, 101]⟩ := by unfold isB wantK; simp only [b1, b2, Bool.false_or, beq_self_eq_true, Bool.and_self]; rfl
      rw [e]
      clear e
      have HT := hid (truth_any SS.out true)
      rw [show (if (true : Bool) = true then sTrue else sFalse) = ⟨#[116, 114, 117, 101]⟩ from rfl] at HT
      have hidx := idx_29
      go_enter Tryd.func55, Tryd.ntmps55
      go_wp2_with fail
      refine HT.out.mono ?_
      rintro e w2 ⟨rfl, s2⟩
      have S3 := hid s2.swap
      have z0 : World.cell? w2 ⟨w.heap.size, 0, none⟩ = some (.int .i64 0) := S3.out.cell 0
      have f0 := S3.out.free 0
      have z1 : World.cell? w2 ⟨w.heap.size, 1, none⟩ = some (.int .i64 0) := S3.out.cell 1
      have f1 := S3.out.free 1
      have z2 : World.cell? w2 ⟨w.heap.size, 2, none⟩ = some (.string ⟨#[]⟩) := S3.out.cell 2
      have f2 := S3.out.free 2
      have z3 : World.cell? w2 ⟨w.heap.size, 3, none⟩ = some (.slice none 0 0) := S3.out.cell 3
      have f3 := S3.out.free 3
      have z4 : World.cell? w2 ⟨w.heap.size, 4, none⟩ = some (.slice none 0 0) := S3.out.cell 4
      have f4 := S3.out.free 4
      have z5 : World.cell? w2 ⟨w.heap.size, 5, none⟩ = some (.slice none 0 0) := S3.out.cell 5
      have f5 := S3.out.free 5
      clear s2 k0 k1 kx HT hidx
      go_wp2_with fail
      have s7 := ((((((S3.out.set 0 (.int .i64 2)).set 1 (.int .i64 0)).set 2 (.string ⟨#[116, 114, 117, 101]⟩)).set 3 (.slice none 0 0)).set 4 (.slice none 0 0)).set 5 (.slice none 0 0))
      refine bodyPost_ret (v := .tuple #[.agg #[.int .i64 2, .int .i64 0, .string ⟨#[116, 114, 117, 101]⟩, .slice none 0 0, .slice none 0 0, .slice none 0 0], .bool true]) (by simp [results, Tryd.results55, go_sem, z0, z1, z2, z3, z4, z5]) rfl ?_
      exact MethP.some' rfl (Le.refl _) s7.drop (in_W _ _)
    | false =>
      have e : tTr (isB 29 x.k) = tW ⟨#[102, 97, 108, 115, 101]⟩ := by unfold isB wantK; simp only [b1, b2, Bool.false_or, beq_self_eq_true, Bool.and_false]; rfl
      rw [e]
      clear e
      have HT := hid (truth_any SS.out false)
      rw [show (if (false : Bool) = true then sTrue else sFalse) = ⟨#[102, 97, 108, 115, 101]⟩ from rfl] at HT
      have hidx := idx_29
      go_enter Tryd.func55, Tryd.ntmps55
      go_wp2_with fail
      refine HT.out.mono ?_
      rintro e w2 ⟨rfl, s2⟩
      have S3 := hid s2.swap
      have z0 : World.cell? w2 ⟨w.heap.size, 0, none⟩ = some (.int .i64 0) := S3.out.cell 0
      have f0 := S3.out.free 0
      have z1 : World.cell? w2 ⟨w.heap.size, 1, none⟩ = some (.int .i64 0) := S3.out.cell 1
      have f1 := S3.out.free 1
      have z2 : World.cell? w2 ⟨w.heap.size, 2, none⟩ = some (.string ⟨#[]⟩) := S3.out.cell 2
      have f2 := S3.out.free 2
      have z3 : World.cell? w2 ⟨w.heap.size, 3, none⟩ = some (.slice none 0 0) := S3.out.cell 3
      have f3 := S3.out.free 3
      have z4 : World.cell? w2 ⟨w.heap.size, 4, none⟩ = some (.slice none 0 0) := S3.out.cell 4
      have f4 := S3.out.free 4
      have z5 : World.cell? w2 ⟨w.heap.size, 5, none⟩ = some (.slice none 0 0) := S3.out.cell 5
      have f5 := S3.out.free 5
      clear s2 k0 k1 kx HT hidx
      go_wp2_with fail
      have s7 := ((((((S3.out.set 0 (.int .i64 2)).set 1 (.int .i64 0)).set 2 (.string ⟨#[102, 97, 108, 115, 101]⟩)).set 3 (.slice none 0 0)).set 4 (.slice none 0 0)).set 5 (.slice none 0 0))
      refine bodyPost_ret (v := .tuple #[.agg #[.int .i64 2, .int .i64 0, .string ⟨#[102, 97, 108, 115, 101]⟩, .slice none 0 0, .slice none 0 0, .slice none 0 0], .bool true]) (by simp [results, Tryd.results55, go_sem, z0, z1, z2, z3, z4, z5]) rfl ?_
      exact MethP.some' rfl (Le.refl _) s7.drop (in_W _ _)
theorem fnk_is_list : FnOk 29 ⟨#[105, 115, 95, 108, 105, 115, 116]⟩ 1 (some 55) := ⟨by decide +kernel, [105, 115, 95, 108, 105, 115, 116, 49], 7, rfl, rfl, by decide, by decide, by decide +kernel, by intro f hf args w; cases hf; exact callFunc_enter Tryd.func55 (by kernel_rfl) rfl args w⟩
theorem is_30 (S : Sat W w (arch h :: L)) (x : T) (hc : CArg h cb 30 [x]) :
    Calls Tryd.prog 55 #[.pointer (some ⟨cb, 0, none⟩)] w (MethP W L h (some (tTr (isB 30 x.k)))) := by
  obtain ⟨a, c, hcb, hl⟩ := hc
  obtain ⟨g, off, vs, rfl, hcx, hix⟩ := hl.get (j := 0) (t := x) rfl
  obtain ⟨ix, icx, rx, rcx, yx, ycx, rfl, _⟩ := id hix.vals
  have SS := hid (S.allocAt (k := w.heap.size) (.cells #[.int .i64 0, .int .i64 0, .string ⟨#[]⟩, .slice none 0 0, .slice none 0 0, .slice none 0 0] 35) rfl).swap
  have k0 := SS.out.archCell hcb 0
  have k1 := SS.out.archCell hcb 1
  have kx : World.cell? _ ⟨g, off, none⟩ = some (.int .i64 x.k) := cell_at SS.out hcx 0 rfl (by omega)
  simp only [List.getElem?_toArray, List.getElem?_cons_succ, List.getElem?_cons_zero, List.length_cons, List.length_nil] at k0 k1
  clear hcb hl hcx hix S
  cases b1 : (x.k == 8) with
  | true =>
    have e : tTr (isB 30 x.k) = tW ⟨#[116, 114, 117, 101]⟩ := by unfold isB wantK; simp only [b1, Bool.true_or]; rfl
    rw [e]
    clear e
    have HT := hid (truth_any SS.out true)
    rw [show (if (true : Bool) = true then sTrue else sFalse) = ⟨#[116, 114, 117, 101]⟩ from rfl] at HT
    have hidx := idx_30
    go_enter Tryd.func55, Tryd.ntmps55
    go_wp2_with fail
    refine HT.out.mono ?_
    rintro e w2 ⟨rfl, s2⟩
    have S3 := hid s2.swap
    have z0 : World.cell? w2 ⟨w.heap.size, 0, none⟩ = some (.int .i64 0) := S3.out.cell 0
    have f0 := S3.out.free 0
    have z1 : World.cell? w2 ⟨w.heap.size, 1, none⟩ = some (.int .i64 0) := S3.out.cell 1
    have f1 := S3.out.free 1
    have z2 : World.cell? w2 ⟨w.heap.size, 2, none⟩ = some (.string ⟨#[]⟩) := S3.out.cell 2
    have f2 := S3.out.free 2
    have z3 : World.cell? w2 ⟨w.heap.size, 3, none⟩ = some (.slice none 0 0) := S3.out.cell 3
    have f3 := S3.out.free 3
    have z4 : World.cell? w2 ⟨w.heap.size, 4, none⟩ = some (.slice none 0 0) := S3.out.cell 4
    have f4 := S3.out.free 4
    have z5 : World.cell? w2 ⟨w.heap.size, 5, none⟩ = some (.slice none 0 0) := S3.out.cell 5
    have f5 := S3.out.free 5
    clear s2 k0 k1 kx HT hidx
    go_wp2_with fail
    have s7 := ((((((S3.out.set 0 (.int .i64 2)).set 1 (.int .i64 0)).set 2 (.string ⟨#[116, 114, 117, 101]⟩)).set 3 (.slice none 0 0)).set 4 (.slice none 0 0)).set 5 (.slice none 0 0))
    refine bodyPost_ret (v := .tuple #[.agg #[.int .i64 2, .int .i64 0, .string ⟨#[116, 114, 117, 101]⟩, .slice none 0 0, .slice none 0 0, .slice none 0 0], .bool true]) (by simp [results, Tryd.results55, go_sem, z0, z1, z2, z3, z4, z5]) rfl ?_
    exact MethP.some' rfl (Le.refl _) s7.drop (in_W _ _)
  | false =>
    have e : tTr (isB 30 x.k) = tW ⟨#[102, 97, 108, 115, 101]⟩ := by unfold isB wantK; simp only [b1, Bool.false_or, show ((8 : Int) == 7) = false from by decide, Bool.false_and]; rfl
    rw [e]
    clear e
    have HT := hid (truth_any SS.out false)
    rw [show (if (false : Bool) = true then sTrue else sFalse) = ⟨#[102, 97, 108, 115, 101]⟩ from rfl] at HT
    have hidx := idx_30
    go_enter Tryd.func55, Tryd.ntmps55
    go_wp2_with fail
    refine HT.out.mono ?_
    rintro e w2 ⟨rfl, s2⟩
    have S3 := hid s2.swap
    have z0 : World.cell? w2 ⟨w.heap.size, 0, none⟩ = some (.int .i64 0) := S3.out.cell 0
    have f0 := S3.out.free 0
    have z1 : World.cell? w2 ⟨w.heap.size, 1, none⟩ = some (.int .i64 0) := S3.out.cell 1
    have f1 := S3.out.free 1
    have z2 : World.cell? w2 ⟨w.heap.size, 2, none⟩ = some (.string ⟨#[]⟩) := S3.out.cell 2
    have f2 := S3.out.free 2
    have z3 : World.cell? w2 ⟨w.heap.size, 3, none⟩ = some (.slice none 0 0) := S3.out.cell 3
    have f3 := S3.out.free 3
    have z4 : World.cell? w2 ⟨w.heap.size, 4, none⟩ = some (.slice none 0 0) := S3.out.cell 4
    have f4 := S3.out.free 4
    have z5 : World.cell? w2 ⟨w.heap.size, 5, none⟩ = some (.slice none 0 0) := S3.out.cell 5
    have f5 := S3.out.free 5
    clear s2 k0 k1 kx HT hidx
    go_wp2_with fail
    have s7 := ((((((S3.out.set 0 (.int .i64 2)).set 1 (.int .i64 0)).set 2 (.string ⟨#[102, 97, 108, 115, 101]⟩)).set 3 (.slice none 0 0)).set 4 (.slice none 0 0)).set 5 (.slice none 0 0))
    refine bodyPost_ret (v := .tuple #[.agg #[.int .i64 2, .int .i64 0, .string ⟨#[102, 97, 108, 115, 101]⟩, .slice none 0 0, .slice none 0 0, .slice none 0 0], .bool true]) (by simp [results, Tryd.results55, go_sem, z0, z1, z2, z3, z4, z5]) rfl ?_
    exact MethP.some' rfl (Le.refl _) s7.drop (in_W _ _)
theorem fnk_is_bin : FnOk 30 ⟨#[105, 115, 95, 98, 105, 110]⟩ 1 (some 55) := ⟨by decide +kernel, [105, 115, 95, 98, 105, 110, 49], 6, rfl, rfl, by decide, by decide, by decide +kernel, by intro f hf args w; cases hf; exact callFunc_enter Tryd.func55 (by kernel_rfl) rfl args w⟩
variable {b : Nat} {a0 a1 a2 a3 a4 a5 : Value}
theorem lawdo1 (q : TabS h) (S : Sat W w (blk b (.cells #[a0, a1, a2, a3, a4, a5] 35 (0, 0)) :: arch h :: L)) {i : Nat} {nm : ByteArray} {fo : Option Nat} (F : FnOk i nm 1 fo) (t : T) (q1 : TIn h t [a0, a1, a2, a3, a4, a5]) (o1 : TOk t) (r1 : rightOf t = none)
    (r : Option T) (hr : ∀ t, r = some t → TOk t ∧ rightOf t = none)
    (hmeth : ∀ (w : World) (h' : Nat → Option Obj) (L : List HP) (cb : Nat), Le h h' → Sat W w (arch h' :: L) → CArg h' cb i [t] → Calls Tryd.prog (fo.getD 31) #[.pointer (some ⟨cb, 0, none⟩)] w (MethP W L h' r)) :
    Calls Tryd.prog 23 #[.string nm, .slice (some ⟨b, 0, none⟩) 1 1] w (DoL W L h r) := by
  obtain ⟨h1, l1, r1', s1⟩ := store_cells (cs := [a0, a1, a2, a3, a4, a5]) S
  have hla : LIn h1 [t] (some ⟨b, 0, none⟩) 0 := LIn.of_rd (vss := [[a0, a1, a2, a3, a4, a5]]) (by simp only [TsIn]; exact ⟨_, _, rfl, q1.mono l1, rfl⟩) (by simpa using r1')
  refine (lawdo_any (q.mono l1) s1 F [t] _ 1 hla rfl ?_ ?_ r hr (fun w h' L cb l s c => hmeth w h' L cb (l1.trans l) s c)).mono ?_
  · intro x hx; simp only [List.mem_cons, List.not_mem_nil, or_false] at hx; subst hx; assumption
  · intro x hx; simp only [List.mem_cons, List.not_mem_nil, or_false] at hx; subst hx; assumption
  · intro e w' x
    exact x.le l1
theorem do_is_int (q : TabS h) (S : Sat W w (blk b (.cells #[a0, a1, a2, a3, a4, a5] 35 (0, 0)) :: arch h :: L)) (t : T) (q1 : TIn h t [a0, a1, a2, a3, a4, a5]) (o1 : TOk t) (r1 : rightOf t = none) {s : ByteArray} (hz : (if isB 24 t.k then sTrue else sFalse) = s) :
    Calls Tryd.prog 23 #[.string ⟨#[105, 115, 95, 105, 110, 116]⟩, .slice (some ⟨b, 0, none⟩) 1 1] w (AtmL W L h s) :=
  (lawdo1 q S fnk_is_int t q1 o1 r1 (some (tTr (isB 24 t.k))) (fun v e => by cases e; exact tr_ok _) (fun w h' L cb l s c => is_24 s t c)).mono fun e w' x => x.atm hz
theorem do_is_atom (q : TabS h) (S : Sat W w (blk b (.cells #[a0, a1, a2, a3, a4, a5] 35 (0, 0)) :: arch h :: L)) (t : T) (q1 : TIn h t [a0, a1, a2, a3, a4, a5]) (o1 : TOk t) (r1 : rightOf t = none) {s : ByteArray} (hz : (if isB 25 t.k then sTrue else sFalse) = s) :
    Calls Tryd.prog 23 #[.string ⟨#[105, 115, 95, 97, 116, 111, 109]⟩, .slice (some ⟨b, 0, none⟩) 1 1] w (AtmL W L h s) :=
  (lawdo1 q S fnk_is_atom t q1 o1 r1 (some (tTr (isB 25 t.k))) (fun v e => by cases e; exact tr_ok _) (fun w h' L cb l s c => is_25 s t c)).mono fun e w' x => x.atm hz
theorem do_is_pid (q : TabS h) (S : Sat W w (blk b (.cells #[a0, a1, a2, a3, a4, a5] 35 (0, 0)) :: arch h :: L)) (t : T) (q1 : TIn h t [a0, a1, a2, a3, a4, a5]) (o1 : TOk t) (r1 : rightOf t = none) {s : ByteArray} (hz : (if isB 26 t.k then sTrue else sFalse) = s) :
    Calls Tryd.prog 23 #[.string ⟨#[105, 115, 95, 112, 105, 100]⟩, .slice (some ⟨b, 0, none⟩) 1 1] w (AtmL W L h s) :=
  (lawdo1 q S fnk_is_pid t q1 o1 r1 (some (tTr (isB 26 t.k))) (fun v e => by cases e; exact tr_ok _) (fun w h' L cb l s c => is_26 s t c)).mono fun e w' x => x.atm hz
theorem do_is_ref (q : TabS h) (S : Sat W w (blk b (.cells #[a0, a1, a2, a3, a4, a5] 35 (0, 0)) :: arch h :: L)) (t : T) (q1 : TIn h t [a0, a1, a2, a3, a4, a5]) (o1 : TOk t) (r1 : rightOf t = none) {s : ByteArray} (hz : (if isB 27 t.k then sTrue else sFalse) = s) :
    Calls Tryd.prog 23 #[.string ⟨#[105, 115, 95, 114, 101, 102]⟩, .slice (some ⟨b, 0, none⟩) 1 1] w (AtmL W L h s) :=
  (lawdo1 q S fnk_is_ref t q1 o1 r1 (some (tTr (isB 27 t.k))) (fun v e => by cases e; exact tr_ok _) (fun w h' L cb l s c => is_27 s t c)).mono fun e w' x => x.atm hz
theorem do_is_tuple (q : TabS h) (S : Sat W w (blk b (.cells #[a0, a1, a2, a3, a4, a5] 35 (0, 0)) :: arch h :: L)) (t : T) (q1 : TIn h t [a0, a1, a2, a3, a4, a5]) (o1 : TOk t) (r1 : rightOf t = none) {s : ByteArray} (hz : (if isB 28 t.k then sTrue else sFalse) = s) :
    Calls Tryd.prog 23 #[.string ⟨#[105, 115, 95, 116, 117, 112, 108, 101]⟩, .slice (some ⟨b, 0, none⟩) 1 1] w (AtmL W L h s) :=
  (lawdo1 q S fnk_is_tuple t q1 o1 r1 (some (tTr (isB 28 t.k))) (fun v e => by cases e; exact tr_ok _) (fun w h' L cb l s c => is_28 s t c)).mono fun e w' x => x.atm hz
theorem do_is_list (q : TabS h) (S : Sat W w (blk b (.cells #[a0, a1, a2, a3, a4, a5] 35 (0, 0)) :: arch h :: L)) (t : T) (q1 : TIn h t [a0, a1, a2, a3, a4, a5]) (o1 : TOk t) (r1 : rightOf t = none) {s : ByteArray} (hz : (if isB 29 t.k then sTrue else sFalse) = s) :
    Calls Tryd.prog 23 #[.string ⟨#[105, 115, 95, 108, 105, 115, 116]⟩, .slice (some ⟨b, 0, none⟩) 1 1] w (AtmL W L h s) :=
  (lawdo1 q S fnk_is_list t q1 o1 r1 (some (tTr (isB 29 t.k))) (fun v e => by cases e; exact tr_ok _) (fun w h' L cb l s c => is_29 s t c)).mono fun e w' x => x.atm hz
theorem do_is_bin (q : TabS h) (S : Sat W w (blk b (.cells #[a0, a1, a2, a3, a4, a5] 35 (0, 0)) :: arch h :: L)) (t : T) (q1 : TIn h t [a0, a1, a2, a3, a4, a5]) (o1 : TOk t) (r1 : rightOf t = none) {s : ByteArray} (hz : (if isB 30 t.k then sTrue else sFalse) = s) :
    Calls Tryd.prog 23 #[.string ⟨#[105, 115, 95, 98, 105, 110]⟩, .slice (some ⟨b, 0, none⟩) 1 1] w (AtmL W L h s) :=
  (lawdo1 q S fnk_is_bin t q1 o1 r1 (some (tTr (isB 30 t.k))) (fun v e => by cases e; exact tr_ok _) (fun w h' L cb l s c => is_30 s t c)).mono fun e w' x => x.atm hz
end
#print axioms do_is_bin
end Go.Proofs.YtlgogflhjpcmlaaDoor
