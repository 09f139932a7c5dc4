/-
  bif: order; the law's do of eq, lt, compare. (Written by wip/gen/gen_bifo.py.)
-/
import Derived.Test.YtlgogflhjpcmlaaDoorBifG
import Derived.Test.YtlgogflhjpcmlaaDoorTCmpC
import Derived.Test.YtlgogflhjpcmlaaDoorTold
import Derived.Deep.RegionHeld3
namespace Go.Proofs.YtlgogflhjpcmlaaDoor
open Go.RowKit
set_option maxHeartbeats 8000000
set_option maxRecDepth 100000

theorem right_wt {t : T} (h : rightOf t = none) : wt t ≤ 196608 := by
  have h1 := wt_sz t
  have h2 := right_sz h
  omega
theorem callFunc_enter {P : Program} {f : Nat} {fn : Func} {c : Code} (hf : P.funcs[f]? = some fn) (hname : (fn.name == "runtime.NumGoroutine") = false) (hb : fn.body = some c) (args : Array Value) (w : World) :
    (callFunc f args).run P w = .ok (.enter f args) w := by
  have h1 : fn.name ≠ "runtime.NumGoroutine" := by simpa using hname
  simp [callFunc, hf, h1, hb]
section
variable {W w : World} {L : List HP} {h : Nat → Option Obj} {cb : Nat}
theorem cell_at (s : Sat W w (arch h :: L)) {g o o2 : Nat} {vs : List Value} (hc : ∀ j u, vs[j]? = some u → cellIn h g (o + j) = some u) (j : Nat) {u : Value} (hj : vs[j]? = some u) (ho : o2 = o + j) : World.cell? w ⟨g, o2, none⟩ = some u := by
  subst ho; exact s.cellIn (hc j u hj)
theorem order_11 (S : Sat W w (arch h :: L)) (x y : T) (hc : CArg h cb 11 [x, y]) (ox : TOk x) (oy : TOk y) (hrx : rightOf x = none) (hry : rightOf y = none) :
    Calls Tryd.prog 44 #[.pointer (some ⟨cb, 0, none⟩)] w (MethP W L h (some (tTr (cmp x y == 0)))) := by
  obtain ⟨a, c, hcb, hl⟩ := hc
  obtain ⟨g, off, vs, rfl, hcx, hix⟩ := hl.get (j := 0) (t := x) rfl
  obtain ⟨g', off', us, hgg, hcy, hiy⟩ := hl.get (j := 1) (t := y) rfl
  cases hgg
  obtain ⟨ix, icx, rx, rcx, yx, ycx, rfl, _⟩ := id hix.vals
  obtain ⟨iy, icy, ry, rcy, yy, ycy, rfl, _⟩ := id hiy.vals
  obtain ⟨z, HZ⟩ : ∃ z, Hid (cmp x y = z) := ⟨_, hid rfl⟩
  rw [HZ.out]
  have HF : Hid (∀ (w' : World) (M : List HP), Sat W w' (arch h :: M) → World.cell? w' ⟨cb, 1, none⟩ = some (.slice (some ⟨g, off, none⟩) 2 c) ∧ World.cell? w' ⟨g, off, none⟩ = some (.int .i64 x.k) ∧ World.cell? w' ⟨g, off + 1, none⟩ = some (.int .i64 x.n) ∧ World.cell? w' ⟨g, off + 2, none⟩ = some (.string x.nm) ∧ World.cell? w' ⟨g, off + 3, none⟩ = some (.slice ix x.is.length icx) ∧ World.cell? w' ⟨g, off + 4, none⟩ = some (.slice rx x.rs.length rcx) ∧ World.cell? w' ⟨g, off + 5, none⟩ = some (.slice yx x.bs.length ycx) ∧ World.cell? w' ⟨g, off + 6, none⟩ = some (.int .i64 y.k) ∧ World.cell? w' ⟨g, off + 6 + 1, none⟩ = some (.int .i64 y.n) ∧ World.cell? w' ⟨g, off + 6 + 2, none⟩ = some (.string y.nm) ∧ World.cell? w' ⟨g, off + 6 + 3, none⟩ = some (.slice iy y.is.length icy) ∧ World.cell? w' ⟨g, off + 6 + 4, none⟩ = some (.slice ry y.rs.length rcy) ∧ World.cell? w' ⟨g, off + 6 + 5, none⟩ = some (.slice yy y.bs.length ycy) ∧ World.cell? w' ⟨g, off + 7, none⟩ = some (.int .i64 y.n) ∧ World.cell? w' ⟨g, off + 8, none⟩ = some (.string y.nm) ∧ World.cell? w' ⟨g, off + 9, none⟩ = some (.slice iy y.is.length icy) ∧ World.cell? w' ⟨g, off + 10, none⟩ = some (.slice ry y.rs.length rcy) ∧ World.cell? w' ⟨g, off + 11, none⟩ = some (.slice yy y.bs.length ycy)) := hid (fun w' M s => ⟨(s.archCell hcb 1).trans rfl, cell_at s hcx 0 rfl (by omega), cell_at s hcx 1 rfl (by omega), cell_at s hcx 2 rfl (by omega), cell_at s hcx 3 rfl (by omega), cell_at s hcx 4 rfl (by omega), cell_at s hcx 5 rfl (by omega), cell_at s hcy 0 rfl (by omega), cell_at s hcy 1 rfl (by omega), cell_at s hcy 2 rfl (by omega), cell_at s hcy 3 rfl (by omega), cell_at s hcy 4 rfl (by omega), cell_at s hcy 5 rfl (by omega), cell_at s hcy 1 rfl (by omega), cell_at s hcy 2 rfl (by omega), cell_at s hcy 3 rfl (by omega), cell_at s hcy 4 rfl (by omega), cell_at s hcy 5 rfl (by omega)⟩)
  have HF0 : Hid (∀ (w' : World) (M : List HP), Sat W w' (arch h :: M) → World.cell? w' ⟨cb, 0, none⟩ = some (.int .i64 11)) := hid (fun w' M s => (s.archCell hcb 0).trans rfl)
  have SS := hid (S.allocAt (k := w.heap.size) (.cells #[.int .i64 0, .int .i64 0, .string ⟨#[]⟩, .slice none 0 0, .slice none 0 0, .slice none 0 0] 35) rfl).swap
  have HC : Hid (∀ (w' : World) (M : List HP), Sat W w' (arch h :: M) → Calls Tryd.prog 27 #[.agg #[(.int .i64 x.k), (.int .i64 x.n), (.string x.nm), (.slice ix x.is.length icx), (.slice rx x.rs.length rcx), (.slice yx x.bs.length ycx)], .agg #[(.int .i64 y.k), (.int .i64 y.n), (.string y.nm), (.slice iy y.is.length icy), (.slice ry y.rs.length rcy), (.slice yy y.bs.length ycy)]] w' fun e w2 => e = .returned (.int .i64 z) ∧ Sat W w2 (arch h :: M)) := hid (fun w' M s => by
    rw [← HZ.out]
    exact compare_any s x y _ _ hix hiy ox oy (by have := right_wt hrx; have := right_wt hry; omega))
  clear hcb hl hcx hcy hix hiy ox oy hrx hry S
  go_enter Tryd.func44, Tryd.ntmps44
  go_upto_region 1 with fail
  replace SS := hid SS.out.drew
  go_region_held3 (fun w' => World.cell? w' ⟨cb, 1, none⟩ = some (.slice (some ⟨g, off, none⟩) 2 c) ∧ World.cell? w' ⟨g, off, none⟩ = some (.int .i64 x.k) ∧ World.cell? w' ⟨g, off + 1, none⟩ = some (.int .i64 x.n) ∧ World.cell? w' ⟨g, off + 2, none⟩ = some (.string x.nm) ∧ World.cell? w' ⟨g, off + 3, none⟩ = some (.slice ix x.is.length icx) ∧ World.cell? w' ⟨g, off + 4, none⟩ = some (.slice rx x.rs.length rcx) ∧ World.cell? w' ⟨g, off + 5, none⟩ = some (.slice yx x.bs.length ycx) ∧ World.cell? w' ⟨g, off + 6, none⟩ = some (.int .i64 y.k) ∧ World.cell? w' ⟨g, off + 6 + 1, none⟩ = some (.int .i64 y.n) ∧ World.cell? w' ⟨g, off + 6 + 2, none⟩ = some (.string y.nm) ∧ World.cell? w' ⟨g, off + 6 + 3, none⟩ = some (.slice iy y.is.length icy) ∧ World.cell? w' ⟨g, off + 6 + 4, none⟩ = some (.slice ry y.rs.length rcy) ∧ World.cell? w' ⟨g, off + 6 + 5, none⟩ = some (.slice yy y.bs.length ycy) ∧ World.cell? w' ⟨g, off + 7, none⟩ = some (.int .i64 y.n) ∧ World.cell? w' ⟨g, off + 8, none⟩ = some (.string y.nm) ∧ World.cell? w' ⟨g, off + 9, none⟩ = some (.slice iy y.is.length icy) ∧ World.cell? w' ⟨g, off + 10, none⟩ = some (.slice ry y.rs.length rcy) ∧ World.cell? w' ⟨g, off + 11, none⟩ = some (.slice yy y.bs.length ycy)) (exact HF.out _ _ SS.out) (first
    | (go_at_call 27
       with_reducible refine (HC.out _ _ SS.out).mono ?_
       rintro e wc ⟨rfl, s⟩
       replace SS := hid s
       clear s))
  have k0 := HF0.out _ _ SS.out
  clear HF HC
  go_wp2_with fail
  refine (truth_any SS.out (z == 0)).mono ?_
  rintro e w2 ⟨rfl, s2⟩
  have S3 := hid s2.swap
  generalize hs2 : (if (z == 0) = true then sTrue else sFalse) = sv
  have HT : Hid (tTr (z == 0) = tW sv) := hid (by unfold tTr; rw [hs2])
  clear hs2
  have z0 : World.cell? w2 ⟨w.heap.size, 0, none⟩ = some (.int .i64 0) := S3.out.cell 0
  have f0 := S3.out.free 0
  have z1 : World.cell? w2 ⟨w.heap.size, 1, none⟩ = some (.int .i64 0) := S3.out.cell 1
  have f1 := S3.out.free 1
  have z2 : World.cell? w2 ⟨w.heap.size, 2, none⟩ = some (.string ⟨#[]⟩) := S3.out.cell 2
  have f2 := S3.out.free 2
  have z3 : World.cell? w2 ⟨w.heap.size, 3, none⟩ = some (.slice none 0 0) := S3.out.cell 3
  have f3 := S3.out.free 3
  have z4 : World.cell? w2 ⟨w.heap.size, 4, none⟩ = some (.slice none 0 0) := S3.out.cell 4
  have f4 := S3.out.free 4
  have z5 : World.cell? w2 ⟨w.heap.size, 5, none⟩ = some (.slice none 0 0) := S3.out.cell 5
  have f5 := S3.out.free 5
  clear s2 k0 HF0
  go_wp2_with fail
  have s7 := ((((((S3.out.set 0 (.int .i64 2)).set 1 (.int .i64 0)).set 2 (.string sv)).set 3 (.slice none 0 0)).set 4 (.slice none 0 0)).set 5 (.slice none 0 0))
  rw [HT.out]
  refine bodyPost_ret (v := .tuple #[.agg #[.int .i64 2, .int .i64 0, .string sv, .slice none 0 0, .slice none 0 0, .slice none 0 0], .bool true]) (by simp [results, Tryd.results44, go_sem, z0, z1, z2, z3, z4, z5]) rfl ?_
  exact MethP.some' rfl (Le.refl _) s7.drop (in_W _ _)
theorem order_12 (S : Sat W w (arch h :: L)) (x y : T) (hc : CArg h cb 12 [x, y]) (ox : TOk x) (oy : TOk y) (hrx : rightOf x = none) (hry : rightOf y = none) :
    Calls Tryd.prog 44 #[.pointer (some ⟨cb, 0, none⟩)] w (MethP W L h (some (tTr (decide (cmp x y < 0))))) := by
  obtain ⟨a, c, hcb, hl⟩ := hc
  obtain ⟨g, off, vs, rfl, hcx, hix⟩ := hl.get (j := 0) (t := x) rfl
  obtain ⟨g', off', us, hgg, hcy, hiy⟩ := hl.get (j := 1) (t := y) rfl
  cases hgg
  obtain ⟨ix, icx, rx, rcx, yx, ycx, rfl, _⟩ := id hix.vals
  obtain ⟨iy, icy, ry, rcy, yy, ycy, rfl, _⟩ := id hiy.vals
  obtain ⟨z, HZ⟩ : ∃ z, Hid (cmp x y = z) := ⟨_, hid rfl⟩
  rw [HZ.out]
  have HF : Hid (∀ (w' : World) (M : List HP), Sat W w' (arch h :: M) → World.cell? w' ⟨cb, 1, none⟩ = some (.slice (some ⟨g, off, none⟩) 2 c) ∧ World.cell? w' ⟨g, off, none⟩ = some (.int .i64 x.k) ∧ World.cell? w' ⟨g, off + 1, none⟩ = some (.int .i64 x.n) ∧ World.cell? w' ⟨g, off + 2, none⟩ = some (.string x.nm) ∧ World.cell? w' ⟨g, off + 3, none⟩ = some (.slice ix x.is.length icx) ∧ World.cell? w' ⟨g, off + 4, none⟩ = some (.slice rx x.rs.length rcx) ∧ World.cell? w' ⟨g, off + 5, none⟩ = some (.slice yx x.bs.length ycx) ∧ World.cell? w' ⟨g, off + 6, none⟩ = some (.int .i64 y.k) ∧ World.cell? w' ⟨g, off + 6 + 1, none⟩ = some (.int .i64 y.n) ∧ World.cell? w' ⟨g, off + 6 + 2, none⟩ = some (.string y.nm) ∧ World.cell? w' ⟨g, off + 6 + 3, none⟩ = some (.slice iy y.is.length icy) ∧ World.cell? w' ⟨g, off + 6 + 4, none⟩ = some (.slice ry y.rs.length rcy) ∧ World.cell? w' ⟨g, off + 6 + 5, none⟩ = some (.slice yy y.bs.length ycy) ∧ World.cell? w' ⟨g, off + 7, none⟩ = some (.int .i64 y.n) ∧ World.cell? w' ⟨g, off + 8, none⟩ = some (.string y.nm) ∧ World.cell? w' ⟨g, off + 9, none⟩ = some (.slice iy y.is.length icy) ∧ World.cell? w' ⟨g, off + 10, none⟩ = some (.slice ry y.rs.length rcy) ∧ World.cell? w' ⟨g, off + 11, none⟩ = some (.slice yy y.bs.length ycy)) := hid (fun w' M s => ⟨(s.archCell hcb 1).trans rfl, cell_at s hcx 0 rfl (by omega), cell_at s hcx 1 rfl (by omega), cell_at s hcx 2 rfl (by omega), cell_at s hcx 3 rfl (by omega), cell_at s hcx 4 rfl (by omega), cell_at s hcx 5 rfl (by omega), cell_at s hcy 0 rfl (by omega), cell_at s hcy 1 rfl (by omega), cell_at s hcy 2 rfl (by omega), cell_at s hcy 3 rfl (by omega), cell_at s hcy 4 rfl (by omega), cell_at s hcy 5 rfl (by omega), cell_at s hcy 1 rfl (by omega), cell_at s hcy 2 rfl (by omega), cell_at s hcy 3 rfl (by omega), cell_at s hcy 4 rfl (by omega), cell_at s hcy 5 rfl (by omega)⟩)
  have HF0 : Hid (∀ (w' : World) (M : List HP), Sat W w' (arch h :: M) → World.cell? w' ⟨cb, 0, none⟩ = some (.int .i64 12)) := hid (fun w' M s => (s.archCell hcb 0).trans rfl)
  have SS := hid (S.allocAt (k := w.heap.size) (.cells #[.int .i64 0, .int .i64 0, .string ⟨#[]⟩, .slice none 0 0, .slice none 0 0, .slice none 0 0] 35) rfl).swap
  have HC : Hid (∀ (w' : World) (M : List HP), Sat W w' (arch h :: M) → Calls Tryd.prog 27 #[.agg #[(.int .i64 x.k), (.int .i64 x.n), (.string x.nm), (.slice ix x.is.length icx), (.slice rx x.rs.length rcx), (.slice yx x.bs.length ycx)], .agg #[(.int .i64 y.k), (.int .i64 y.n), (.string y.nm), (.slice iy y.is.length icy), (.slice ry y.rs.length rcy), (.slice yy y.bs.length ycy)]] w' fun e w2 => e = .returned (.int .i64 z) ∧ Sat W w2 (arch h :: M)) := hid (fun w' M s => by
    rw [← HZ.out]
    exact compare_any s x y _ _ hix hiy ox oy (by have := right_wt hrx; have := right_wt hry; omega))
  clear hcb hl hcx hcy hix hiy ox oy hrx hry S
  go_enter Tryd.func44, Tryd.ntmps44
  go_upto_region 1 with fail
  replace SS := hid SS.out.drew
  go_region_held3 (fun w' => World.cell? w' ⟨cb, 1, none⟩ = some (.slice (some ⟨g, off, none⟩) 2 c) ∧ World.cell? w' ⟨g, off, none⟩ = some (.int .i64 x.k) ∧ World.cell? w' ⟨g, off + 1, none⟩ = some (.int .i64 x.n) ∧ World.cell? w' ⟨g, off + 2, none⟩ = some (.string x.nm) ∧ World.cell? w' ⟨g, off + 3, none⟩ = some (.slice ix x.is.length icx) ∧ World.cell? w' ⟨g, off + 4, none⟩ = some (.slice rx x.rs.length rcx) ∧ World.cell? w' ⟨g, off + 5, none⟩ = some (.slice yx x.bs.length ycx) ∧ World.cell? w' ⟨g, off + 6, none⟩ = some (.int .i64 y.k) ∧ World.cell? w' ⟨g, off + 6 + 1, none⟩ = some (.int .i64 y.n) ∧ World.cell? w' ⟨g, off + 6 + 2, none⟩ = some (.string y.nm) ∧ World.cell? w' ⟨g, off + 6 + 3, none⟩ = some (.slice iy y.is.length icy) ∧ World.cell? w' ⟨g, off + 6 + 4, none⟩ = some (.slice ry y.rs.length rcy) ∧ World.cell? w' ⟨g, off + 6 + 5, none⟩ = some (.slice yy y.bs.length ycy) ∧ World.cell? w' ⟨g, off + 7, none⟩ = some (.int .i64 y.n) ∧ World.cell? w' ⟨g, off + 8, none⟩ = some (.string y.nm) ∧ World.cell? w' ⟨g, off + 9, none⟩ = some (.slice iy y.is.length icy) ∧ World.cell? w' ⟨g, off + 10, none⟩ = some (.slice ry y.rs.length rcy) ∧ World.cell? w' ⟨g, off + 11, none⟩ = some (.slice yy y.bs.length ycy)) (exact HF.out _ _ SS.out) (first
    | (go_at_call 27
       with_reducible refine (HC.out _ _ SS.out).mono ?_
       rintro e wc ⟨rfl, s⟩
       replace SS := hid s
       clear s))
  have k0 := HF0.out _ _ SS.out
  clear HF HC
  go_wp2_with fail
  refine (truth_any SS.out (decide (z < 0))).mono ?_
  rintro e w2 ⟨rfl, s2⟩
  have S3 := hid s2.swap
  generalize hs2 : (if (decide (z < 0)) = true then sTrue else sFalse) = sv
  have HT : Hid (tTr (decide (z < 0)) = tW sv) := hid (by unfold tTr; rw [hs2])
  clear hs2
  have z0 : World.cell? w2 ⟨w.heap.size, 0, none⟩ = some (.int .i64 0) := S3.out.cell 0
  have f0 := S3.out.free 0
  have z1 : World.cell? w2 ⟨w.heap.size, 1, none⟩ = some (.int .i64 0) := S3.out.cell 1
  have f1 := S3.out.free 1
  have z2 : World.cell? w2 ⟨w.heap.size, 2, none⟩ = some (.string ⟨#[]⟩) := S3.out.cell 2
  have f2 := S3.out.free 2
  have z3 : World.cell? w2 ⟨w.heap.size, 3, none⟩ = some (.slice none 0 0) := S3.out.cell 3
  have f3 := S3.out.free 3
  have z4 : World.cell? w2 ⟨w.heap.size, 4, none⟩ = some (.slice none 0 0) := S3.out.cell 4
  have f4 := S3.out.free 4
  have z5 : World.cell? w2 ⟨w.heap.size, 5, none⟩ = some (.slice none 0 0) := S3.out.cell 5
  have f5 := S3.out.free 5
  clear s2 k0 HF0
  go_wp2_with fail
  have s7 := ((((((S3.out.set 0 (.int .i64 2)).set 1 (.int .i64 0)).set 2 (.string sv)).set 3 (.slice none 0 0)).set 4 (.slice none 0 0)).set 5 (.slice none 0 0))
  rw [HT.out]
  refine bodyPost_ret (v := .tuple #[.agg #[.int .i64 2, .int .i64 0, .string sv, .slice none 0 0, .slice none 0 0, .slice none 0 0], .bool true]) (by simp [results, Tryd.results44, go_sem, z0, z1, z2, z3, z4, z5]) rfl ?_
  exact MethP.some' rfl (Le.refl _) s7.drop (in_W _ _)
theorem order_13 (S : Sat W w (arch h :: L)) (x y : T) (hc : CArg h cb 13 [x, y]) (ox : TOk x) (oy : TOk y) (hrx : rightOf x = none) (hry : rightOf y = none) :
    Calls Tryd.prog 44 #[.pointer (some ⟨cb, 0, none⟩)] w (MethP W L h (some (tN (cmp x y)))) := by
  obtain ⟨a, c, hcb, hl⟩ := hc
  obtain ⟨g, off, vs, rfl, hcx, hix⟩ := hl.get (j := 0) (t := x) rfl
  obtain ⟨g', off', us, hgg, hcy, hiy⟩ := hl.get (j := 1) (t := y) rfl
  cases hgg
  obtain ⟨ix, icx, rx, rcx, yx, ycx, rfl, _⟩ := id hix.vals
  obtain ⟨iy, icy, ry, rcy, yy, ycy, rfl, _⟩ := id hiy.vals
  obtain ⟨z, HZ⟩ : ∃ z, Hid (cmp x y = z) := ⟨_, hid rfl⟩
  rw [HZ.out]
  have HF : Hid (∀ (w' : World) (M : List HP), Sat W w' (arch h :: M) → World.cell? w' ⟨cb, 1, none⟩ = some (.slice (some ⟨g, off, none⟩) 2 c) ∧ World.cell? w' ⟨g, off, none⟩ = some (.int .i64 x.k) ∧ World.cell? w' ⟨g, off + 1, none⟩ = some (.int .i64 x.n) ∧ World.cell? w' ⟨g, off + 2, none⟩ = some (.string x.nm) ∧ World.cell? w' ⟨g, off + 3, none⟩ = some (.slice ix x.is.length icx) ∧ World.cell? w' ⟨g, off + 4, none⟩ = some (.slice rx x.rs.length rcx) ∧ World.cell? w' ⟨g, off + 5, none⟩ = some (.slice yx x.bs.length ycx) ∧ World.cell? w' ⟨g, off + 6, none⟩ = some (.int .i64 y.k) ∧ World.cell? w' ⟨g, off + 6 + 1, none⟩ = some (.int .i64 y.n) ∧ World.cell? w' ⟨g, off + 6 + 2, none⟩ = some (.string y.nm) ∧ World.cell? w' ⟨g, off + 6 + 3, none⟩ = some (.slice iy y.is.length icy) ∧ World.cell? w' ⟨g, off + 6 + 4, none⟩ = some (.slice ry y.rs.length rcy) ∧ World.cell? w' ⟨g, off + 6 + 5, none⟩ = some (.slice yy y.bs.length ycy) ∧ World.cell? w' ⟨g, off + 7, none⟩ = some (.int .i64 y.n) ∧ World.cell? w' ⟨g, off + 8, none⟩ = some (.string y.nm) ∧ World.cell? w' ⟨g, off + 9, none⟩ = some (.slice iy y.is.length icy) ∧ World.cell? w' ⟨g, off + 10, none⟩ = some (.slice ry y.rs.length rcy) ∧ World.cell? w' ⟨g, off + 11, none⟩ = some (.slice yy y.bs.length ycy)) := hid (fun w' M s => ⟨(s.archCell hcb 1).trans rfl, cell_at s hcx 0 rfl (by omega), cell_at s hcx 1 rfl (by omega), cell_at s hcx 2 rfl (by omega), cell_at s hcx 3 rfl (by omega), cell_at s hcx 4 rfl (by omega), cell_at s hcx 5 rfl (by omega), cell_at s hcy 0 rfl (by omega), cell_at s hcy 1 rfl (by omega), cell_at s hcy 2 rfl (by omega), cell_at s hcy 3 rfl (by omega), cell_at s hcy 4 rfl (by omega), cell_at s hcy 5 rfl (by omega), cell_at s hcy 1 rfl (by omega), cell_at s hcy 2 rfl (by omega), cell_at s hcy 3 rfl (by omega), cell_at s hcy 4 rfl (by omega), cell_at s hcy 5 rfl (by omega)⟩)
  have HF0 : Hid (∀ (w' : World) (M : List HP), Sat W w' (arch h :: M) → World.cell? w' ⟨cb, 0, none⟩ = some (.int .i64 13)) := hid (fun w' M s => (s.archCell hcb 0).trans rfl)
  have SS := hid (S.allocAt (k := w.heap.size) (.cells #[.int .i64 0, .int .i64 0, .string ⟨#[]⟩, .slice none 0 0, .slice none 0 0, .slice none 0 0] 35) rfl).swap
  have HC : Hid (∀ (w' : World) (M : List HP), Sat W w' (arch h :: M) → Calls Tryd.prog 27 #[.agg #[(.int .i64 x.k), (.int .i64 x.n), (.string x.nm), (.slice ix x.is.length icx), (.slice rx x.rs.length rcx), (.slice yx x.bs.length ycx)], .agg #[(.int .i64 y.k), (.int .i64 y.n), (.string y.nm), (.slice iy y.is.length icy), (.slice ry y.rs.length rcy), (.slice yy y.bs.length ycy)]] w' fun e w2 => e = .returned (.int .i64 z) ∧ Sat W w2 (arch h :: M)) := hid (fun w' M s => by
    rw [← HZ.out]
    exact compare_any s x y _ _ hix hiy ox oy (by have := right_wt hrx; have := right_wt hry; omega))
  clear hcb hl hcx hcy hix hiy ox oy hrx hry S
  go_enter Tryd.func44, Tryd.ntmps44
  go_upto_region 1 with fail
  replace SS := hid SS.out.drew
  go_region_held3 (fun w' => World.cell? w' ⟨cb, 1, none⟩ = some (.slice (some ⟨g, off, none⟩) 2 c) ∧ World.cell? w' ⟨g, off, none⟩ = some (.int .i64 x.k) ∧ World.cell? w' ⟨g, off + 1, none⟩ = some (.int .i64 x.n) ∧ World.cell? w' ⟨g, off + 2, none⟩ = some (.string x.nm) ∧ World.cell? w' ⟨g, off + 3, none⟩ = some (.slice ix x.is.length icx) ∧ World.cell? w' ⟨g, off + 4, none⟩ = some (.slice rx x.rs.length rcx) ∧ World.cell? w' ⟨g, off + 5, none⟩ = some (.slice yx x.bs.length ycx) ∧ World.cell? w' ⟨g, off + 6, none⟩ = some (.int .i64 y.k) ∧ World.cell? w' ⟨g, off + 6 + 1, none⟩ = some (.int .i64 y.n) ∧ World.cell? w' ⟨g, off + 6 + 2, none⟩ = some (.string y.nm) ∧ World.cell? w' ⟨g, off + 6 + 3, none⟩ = some (.slice iy y.is.length icy) ∧ World.cell? w' ⟨g, off + 6 + 4, none⟩ = some (.slice ry y.rs.length rcy) ∧ World.cell? w' ⟨g, off + 6 + 5, none⟩ = some (.slice yy y.bs.length ycy) ∧ World.cell? w' ⟨g, off + 7, none⟩ = some (.int .i64 y.n) ∧ World.cell? w' ⟨g, off + 8, none⟩ = some (.string y.nm) ∧ World.cell? w' ⟨g, off + 9, none⟩ = some (.slice iy y.is.length icy) ∧ World.cell? w' ⟨g, off + 10, none⟩ = some (.slice ry y.rs.length rcy) ∧ World.cell? w' ⟨g, off + 11, none⟩ = some (.slice yy y.bs.length ycy)) (exact HF.out _ _ SS.out) (first
    | (go_at_call 27
       with_reducible refine (HC.out _ _ SS.out).mono ?_
       rintro e wc ⟨rfl, s⟩
       replace SS := hid s
       clear s))
  have k0 := HF0.out _ _ SS.out
  clear HF HC
  go_wp2_with fail
  refine (numb_any SS.out z).mono ?_
  rintro e w2 ⟨rfl, s2⟩
  have S3 := hid s2.swap
  have z0 : World.cell? w2 ⟨w.heap.size, 0, none⟩ = some (.int .i64 0) := S3.out.cell 0
  have f0 := S3.out.free 0
  have z1 : World.cell? w2 ⟨w.heap.size, 1, none⟩ = some (.int .i64 0) := S3.out.cell 1
  have f1 := S3.out.free 1
  have z2 : World.cell? w2 ⟨w.heap.size, 2, none⟩ = some (.string ⟨#[]⟩) := S3.out.cell 2
  have f2 := S3.out.free 2
  have z3 : World.cell? w2 ⟨w.heap.size, 3, none⟩ = some (.slice none 0 0) := S3.out.cell 3
  have f3 := S3.out.free 3
  have z4 : World.cell? w2 ⟨w.heap.size, 4, none⟩ = some (.slice none 0 0) := S3.out.cell 4
  have f4 := S3.out.free 4
  have z5 : World.cell? w2 ⟨w.heap.size, 5, none⟩ = some (.slice none 0 0) := S3.out.cell 5
  have f5 := S3.out.free 5
  clear s2 k0 HF0
  go_wp2_with fail
  have s7 := ((((((S3.out.set 0 (.int .i64 1)).set 1 (.int .i64 z)).set 2 (.string ⟨#[]⟩)).set 3 (.slice none 0 0)).set 4 (.slice none 0 0)).set 5 (.slice none 0 0))
  skip
  refine bodyPost_ret (v := .tuple #[.agg #[.int .i64 1, .int .i64 z, .string ⟨#[]⟩, .slice none 0 0, .slice none 0 0, .slice none 0 0], .bool true]) (by simp [results, Tryd.results44, go_sem, z0, z1, z2, z3, z4, z5]) rfl ?_
  exact MethP.some' rfl (Le.refl _) s7.drop (in_N _ _)
theorem fnk_eq : FnOk 11 ⟨#[101, 113]⟩ 2 (some 44) := ⟨by decide +kernel, [101, 113, 50], 2, rfl, rfl, by decide, by decide, by decide +kernel, by intro f hf args w; cases hf; exact callFunc_enter Tryd.func44 (by kernel_rfl) rfl args w⟩
theorem fnk_lt : FnOk 12 ⟨#[108, 116]⟩ 2 (some 44) := ⟨by decide +kernel, [108, 116, 50], 2, rfl, rfl, by decide, by decide, by decide +kernel, by intro f hf args w; cases hf; exact callFunc_enter Tryd.func44 (by kernel_rfl) rfl args w⟩
theorem fnk_compare : FnOk 13 ⟨#[99, 111, 109, 112, 97, 114, 101]⟩ 2 (some 44) := ⟨by decide +kernel, [99, 111, 109, 112, 97, 114, 101, 50], 7, rfl, rfl, by decide, by decide, by decide +kernel, by intro f hf args w; cases hf; exact callFunc_enter Tryd.func44 (by kernel_rfl) rfl args w⟩
theorem tr_ok (b : Bool) : TOk (tTr b) ∧ rightOf (tTr b) = none := by
  cases b
  · exact ⟨by unfold tTr tW TOk; exact ⟨by unfold fits; omega, by unfold fits; omega, by decide, by decide, by decide, by decide, by simp, by simp [LOk], by simp [LOk]⟩, by decide +kernel⟩
  · exact ⟨by unfold tTr tW TOk; exact ⟨by unfold fits; omega, by unfold fits; omega, by decide, by decide, by decide, by decide, by simp, by simp [LOk], by simp [LOk]⟩, by decide +kernel⟩
/-- an atom told -/
def AtmL (W : World) (L : List HP) (h : Nat → Option Obj) (s : ByteArray) (e : Ending) (w' : World) : Prop :=
  ∃ ia ic ra rc ba bc h', e = .returned (.tuple #[.agg #[.int .i64 2, .int .i64 0, .string s, .slice ia 0 ic, .slice ra 0 rc, .slice ba 0 bc], .bool true]) ∧ Le h h' ∧ Sat W w' (arch h' :: L)
theorem DoL.atm {b : Bool} {s : ByteArray} (hs : (if b then sTrue else sFalse) = s) {e : Ending} {w' : World} (q : DoL W L h (some (tTr b)) e w') : AtmL W L h s e w' := by
  subst hs
  obtain ⟨vs, h', rfl, l, s, q⟩ := q
  obtain ⟨ia, ic, ra, rc, ba, bc, rfl, _⟩ := id q.vals
  exact ⟨ia, ic, ra, rc, ba, bc, h', rfl, l, s⟩
variable {b : Nat} {a0 a1 a2 a3 a4 a5 b0 b1 b2 b3 b4 b5 : Value}
theorem do_eq (q : TabS h) (S : Sat W w (blk b (.cells #[a0, a1, a2, a3, a4, a5, b0, b1, b2, b3, b4, b5] 35 (0, 0)) :: arch h :: L)) (t u : T) (q1 : TIn h t [a0, a1, a2, a3, a4, a5]) (q2 : TIn h u [b0, b1, b2, b3, b4, b5]) (o1 : TOk t) (o2 : TOk u) (r1 : rightOf t = none) (r2 : rightOf u = none) {s : ByteArray} (hz : (if (cmp t u == 0) then sTrue else sFalse) = s) :
    Calls Tryd.prog 23 #[.string ⟨#[101, 113]⟩, .slice (some ⟨b, 0, none⟩) 2 2] w (AtmL W L h s) := by
  refine (lawdo2 q S fnk_eq t u q1 q2 o1 o2 r1 r2 (some (tTr (cmp t u == 0))) (fun v e => by cases e; exact tr_ok _) (fun w h' L cb l s c => order_11 s t u c o1 o2 r1 r2)).mono fun e w' x => x.atm hz
theorem do_lt (q : TabS h) (S : Sat W w (blk b (.cells #[a0, a1, a2, a3, a4, a5, b0, b1, b2, b3, b4, b5] 35 (0, 0)) :: arch h :: L)) (t u : T) (q1 : TIn h t [a0, a1, a2, a3, a4, a5]) (q2 : TIn h u [b0, b1, b2, b3, b4, b5]) (o1 : TOk t) (o2 : TOk u) (r1 : rightOf t = none) (r2 : rightOf u = none) {s : ByteArray} (hz : (if (decide (cmp t u < 0)) then sTrue else sFalse) = s) :
    Calls Tryd.prog 23 #[.string ⟨#[108, 116]⟩, .slice (some ⟨b, 0, none⟩) 2 2] w (AtmL W L h s) := by
  refine (lawdo2 q S fnk_lt t u q1 q2 o1 o2 r1 r2 (some (tTr (decide (cmp t u < 0)))) (fun v e => by cases e; exact tr_ok _) (fun w h' L cb l s c => order_12 s t u c o1 o2 r1 r2)).mono fun e w' x => x.atm hz
theorem do_compare (q : TabS h) (S : Sat W w (blk b (.cells #[a0, a1, a2, a3, a4, a5, b0, b1, b2, b3, b4, b5] 35 (0, 0)) :: arch h :: L)) (t u : T) (q1 : TIn h t [a0, a1, a2, a3, a4, a5]) (q2 : TIn h u [b0, b1, b2, b3, b4, b5]) (o1 : TOk t) (o2 : TOk u) (r1 : rightOf t = none) (r2 : rightOf u = none) {z : Int} (hz : cmp t u = z) (fz : fits z) :
    Calls Tryd.prog 23 #[.string ⟨#[99, 111, 109, 112, 97, 114, 101]⟩, .slice (some ⟨b, 0, none⟩) 2 2] w (NumL W L h z) := by
  subst hz
  refine (lawdo2 q S fnk_compare t u q1 q2 o1 o2 r1 r2 (some (tN (cmp t u))) (fun v e => by cases e; exact (num_N fz).2) (fun w h' L cb l s c => order_13 s t u c o1 o2 r1 r2)).mono fun e w' x => x.num
end
#print axioms do_eq
end Go.Proofs.YtlgogflhjpcmlaaDoor
