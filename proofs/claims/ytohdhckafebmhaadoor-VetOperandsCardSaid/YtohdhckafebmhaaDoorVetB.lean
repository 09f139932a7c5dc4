/-
  vet: goes, row, instruction. (Written by wip/gen/gen_vetb.py.)
-/
import Derived.Test.YtohdhckafebmhaaDoorVetA
import Derived.Deep.LoopGhost
namespace Go.Proofs.YtohdhckafebmhaaDoor
open Go.RowKit
set_option maxHeartbeats 4000000

def InVals (x : In) : List Value := [.int .i64 x.op, .int .i64 x.a, .int .i64 x.b, .int .i64 x.c]
theorem lenIn (x : In) : (InVals x).length = 4 := rfl
structure InOk (x : In) : Prop where
  op : fits x.op
  a : fits x.a
  b : fits x.b
  c : fits x.c
def i64s' (l : List Int) : List Value := l.map (.int .i64)
theorem len64 (l : List Int) : (i64s' l).length = l.length := by simp [i64s']
section
variable {W w : World} {L : List HP} {v : Nat} {nm fn : ByteArray} {la fa ca : Option Addr} {nl lc nf fc nc cc : Nat} {ar sl : Int}
theorem row_lit {cs : List Int} {b : Nat} (S : Sat W w (blk b (.cells (i64s' cs).toArray 3 (0, 0)) :: L)) (hl : cs.length ≤ 1000) : Sat W w (row 3 1 (some ⟨b, 0, none⟩) cs.length cs.length (i64s' cs) :: L) :=
  S.rowMk (off := 0) (by simp [i64s']) (Nat.le_refl _) (by unfold maxLen; omega) (by simp [i64s']) (by show ((i64s' cs).drop 0).take (cs.length * 1) = _; rw [List.drop_zero, Nat.mul_one, List.take_of_length_le (by rw [len64]; exact Nat.le_refl _)])
set_option maxRecDepth 100000 in
theorem goes_any (S : Sat W w L) (x : In) (pc t : Int) (hpc : 0 ≤ pc ∧ pc ≤ 4398046510976) (ht : -100 ≤ t ∧ t ≤ 100) :
    Calls Tryd.prog 53 #[.agg (InVals x).toArray, .int .i64 pc, .int .i64 t] w fun e w' => ∃ a b n, e = .returned (.tuple #[.slice a n n, .slice b n n]) ∧ n = (goesE x pc t).length ∧ Sat W w' (row 3 1 a n n (i64s' ((goesE x pc t).map (·.1))) :: row 3 1 b n n (i64s' ((goesE x pc t).map (·.2))) :: L) := by
  obtain ⟨op, a, b, c⟩ := x
  have S1 := hid (S.alloc' (.cells (InVals ⟨op, a, b, c⟩).toArray 36))
  obtain ⟨r, HR⟩ : ∃ r, Hid (goesE ⟨op, a, b, c⟩ pc t = r) := ⟨_, hid rfl⟩
  rw [HR.out]
  unfold InVals at S1 ⊢
  clear S
  by_cases e15 : op = 15
  · subst e15
    have hr : r = [] := by rw [← HR.out]; rfl
    subst hr
    clear HR
    go_enter Tryd.func53, Tryd.ntmps53
    go_wp2_with fail
    go_ret2
    exact ⟨_, _, 0, rfl, rfl, S1.out.rowNil.rowNil⟩
  by_cases e14 : op = 14
  · subst e14
    have hr : r = [] := by rw [← HR.out]; rfl
    subst hr
    clear HR
    go_enter Tryd.func53, Tryd.ntmps53
    go_wp2_with fail
    go_ret2
    exact ⟨_, _, 0, rfl, rfl, S1.out.rowNil.rowNil⟩
  by_cases e26 : op = 26
  · subst e26
    have hr : r = [] := by rw [← HR.out]; rfl
    subst hr
    clear HR
    go_enter Tryd.func53, Tryd.ntmps53
    go_wp2_with fail
    go_ret2
    exact ⟨_, _, 0, rfl, rfl, S1.out.rowNil.rowNil⟩
  by_cases e27 : op = 27
  · subst e27
    have hr : r = [] := by rw [← HR.out]; rfl
    subst hr
    clear HR
    go_enter Tryd.func53, Tryd.ntmps53
    go_wp2_with fail
    go_ret2
    exact ⟨_, _, 0, rfl, rfl, S1.out.rowNil.rowNil⟩
  by_cases e4 : op = 4
  · subst e4
    have hr : r = [(a, t)] := by rw [← HR.out]; rfl
    subst hr
    clear HR
    go_enter Tryd.func53, Tryd.ntmps53
    go_wp2_with fail
    go_ret2
    have s2 := row_lit (cs := [a]) (S1.out.allocAt (k := w.heap.size + 1) (.cells (i64s' [a]).toArray 3) (by simp)) (by simp)
    have s3 := row_lit (cs := [t]) (s2.allocAt (k := w.heap.size + 2) (.cells (i64s' [t]).toArray 3) (by simp)) (by simp)
    exact ⟨_, _, 1, rfl, rfl, s3.swap⟩
  by_cases e20 : op = 20
  · subst e20
    have hr : r = [(a, t)] := by rw [← HR.out]; rfl
    subst hr
    clear HR
    go_enter Tryd.func53, Tryd.ntmps53
    go_wp2_with fail
    go_ret2
    have s2 := row_lit (cs := [a]) (S1.out.allocAt (k := w.heap.size + 1) (.cells (i64s' [a]).toArray 3) (by simp)) (by simp)
    have s3 := row_lit (cs := [t]) (s2.allocAt (k := w.heap.size + 2) (.cells (i64s' [t]).toArray 3) (by simp)) (by simp)
    exact ⟨_, _, 1, rfl, rfl, s3.swap⟩
  by_cases e21 : op = 21
  · subst e21
    have hr : r = [(a, t)] := by rw [← HR.out]; rfl
    subst hr
    clear HR
    go_enter Tryd.func53, Tryd.ntmps53
    go_wp2_with fail
    go_ret2
    have s2 := row_lit (cs := [a]) (S1.out.allocAt (k := w.heap.size + 1) (.cells (i64s' [a]).toArray 3) (by simp)) (by simp)
    have s3 := row_lit (cs := [t]) (s2.allocAt (k := w.heap.size + 2) (.cells (i64s' [t]).toArray 3) (by simp)) (by simp)
    exact ⟨_, _, 1, rfl, rfl, s3.swap⟩
  by_cases e24 : op = 24
  · subst e24
    have hr : r = [(pc + 1, t + 1), (a, t)] := by rw [← HR.out]; rfl
    subst hr
    clear HR
    go_enter Tryd.func53, Tryd.ntmps53
    go_wp2_with fail
    go_ret2
    have s2 := row_lit (cs := [pc + 1, a]) (S1.out.allocAt (k := w.heap.size + 1) (.cells (i64s' [pc + 1, a]).toArray 3) (by simp)) (by simp)
    have s3 := row_lit (cs := [t + 1, t]) (s2.allocAt (k := w.heap.size + 2) (.cells (i64s' [t + 1, t]).toArray 3) (by simp)) (by simp)
    exact ⟨_, _, 2, rfl, rfl, s3.swap⟩
  by_cases e25 : op = 25
  · subst e25
    have hr : r = [(pc + 1, t - 1)] := by rw [← HR.out]; rfl
    subst hr
    clear HR
    go_enter Tryd.func53, Tryd.ntmps53
    go_wp2_with fail
    go_ret2
    have s2 := row_lit (cs := [pc + 1]) (S1.out.allocAt (k := w.heap.size + 1) (.cells (i64s' [pc + 1]).toArray 3) (by simp)) (by simp)
    have s3 := row_lit (cs := [t - 1]) (s2.allocAt (k := w.heap.size + 2) (.cells (i64s' [t - 1]).toArray 3) (by simp)) (by simp)
    exact ⟨_, _, 1, rfl, rfl, s3.swap⟩
  by_cases e5 : op = 5
  · subst e5
    have hr : r = [(pc + 1, t), (c, t)] := by rw [← HR.out]; rfl
    subst hr
    clear HR
    go_enter Tryd.func53, Tryd.ntmps53
    go_wp2_with fail
    go_ret2
    have s2 := row_lit (cs := [pc + 1, c]) (S1.out.allocAt (k := w.heap.size + 1) (.cells (i64s' [pc + 1, c]).toArray 3) (by simp)) (by simp)
    have s3 := row_lit (cs := [t, t]) (s2.allocAt (k := w.heap.size + 2) (.cells (i64s' [t, t]).toArray 3) (by simp)) (by simp)
    exact ⟨_, _, 2, rfl, rfl, s3.swap⟩
  by_cases e6 : op = 6
  · subst e6
    have hr : r = [(pc + 1, t), (c, t)] := by rw [← HR.out]; rfl
    subst hr
    clear HR
    go_enter Tryd.func53, Tryd.ntmps53
    go_wp2_with fail
    go_ret2
    have s2 := row_lit (cs := [pc + 1, c]) (S1.out.allocAt (k := w.heap.size + 1) (.cells (i64s' [pc + 1, c]).toArray 3) (by simp)) (by simp)
    have s3 := row_lit (cs := [t, t]) (s2.allocAt (k := w.heap.size + 2) (.cells (i64s' [t, t]).toArray 3) (by simp)) (by simp)
    exact ⟨_, _, 2, rfl, rfl, s3.swap⟩
  by_cases e7 : op = 7
  · subst e7
    have hr : r = [(pc + 1, t), (c, t)] := by rw [← HR.out]; rfl
    subst hr
    clear HR
    go_enter Tryd.func53, Tryd.ntmps53
    go_wp2_with fail
    go_ret2
    have s2 := row_lit (cs := [pc + 1, c]) (S1.out.allocAt (k := w.heap.size + 1) (.cells (i64s' [pc + 1, c]).toArray 3) (by simp)) (by simp)
    have s3 := row_lit (cs := [t, t]) (s2.allocAt (k := w.heap.size + 2) (.cells (i64s' [t, t]).toArray 3) (by simp)) (by simp)
    exact ⟨_, _, 2, rfl, rfl, s3.swap⟩
  by_cases e8 : op = 8
  · subst e8
    have hr : r = [(pc + 1, t), (c, t)] := by rw [← HR.out]; rfl
    subst hr
    clear HR
    go_enter Tryd.func53, Tryd.ntmps53
    go_wp2_with fail
    go_ret2
    have s2 := row_lit (cs := [pc + 1, c]) (S1.out.allocAt (k := w.heap.size + 1) (.cells (i64s' [pc + 1, c]).toArray 3) (by simp)) (by simp)
    have s3 := row_lit (cs := [t, t]) (s2.allocAt (k := w.heap.size + 2) (.cells (i64s' [t, t]).toArray 3) (by simp)) (by simp)
    exact ⟨_, _, 2, rfl, rfl, s3.swap⟩
  by_cases e22 : op = 22
  · subst e22
    have hr : r = [(pc + 1, t), (a, t)] := by rw [← HR.out]; rfl
    subst hr
    clear HR
    go_enter Tryd.func53, Tryd.ntmps53
    go_wp2_with fail
    go_ret2
    have s2 := row_lit (cs := [pc + 1, a]) (S1.out.allocAt (k := w.heap.size + 1) (.cells (i64s' [pc + 1, a]).toArray 3) (by simp)) (by simp)
    have s3 := row_lit (cs := [t, t]) (s2.allocAt (k := w.heap.size + 2) (.cells (i64s' [t, t]).toArray 3) (by simp)) (by simp)
    exact ⟨_, _, 2, rfl, rfl, s3.swap⟩
  by_cases e18 : op = 18
  · subst e18
    have hr : r = [(pc + 1, t), (b, t)] := by rw [← HR.out]; rfl
    subst hr
    clear HR
    go_enter Tryd.func53, Tryd.ntmps53
    go_wp2_with fail
    go_ret2
    have s2 := row_lit (cs := [pc + 1, b]) (S1.out.allocAt (k := w.heap.size + 1) (.cells (i64s' [pc + 1, b]).toArray 3) (by simp)) (by simp)
    have s3 := row_lit (cs := [t, t]) (s2.allocAt (k := w.heap.size + 2) (.cells (i64s' [t, t]).toArray 3) (by simp)) (by simp)
    exact ⟨_, _, 2, rfl, rfl, s3.swap⟩
  have hr : r = [(pc + 1, t)] := by rw [← HR.out]; simp [goesE, e15, e14, e26, e27, e4, e20, e21, e24, e25, e5, e6, e7, e8, e22, e18]
  subst hr
  clear HR
  go_enter Tryd.func53, Tryd.ntmps53
  go_wp2_with fail
  go_ret2
  have s2 := row_lit (cs := [pc + 1]) (S1.out.allocAt (k := w.heap.size + 1) (.cells (i64s' [pc + 1]).toArray 3) (by simp)) (by simp)
  have s3 := row_lit (cs := [t]) (s2.allocAt (k := w.heap.size + 2) (.cells (i64s' [t]).toArray 3) (by simp)) (by simp)
  exact ⟨_, _, 1, rfl, rfl, s3.swap⟩
end
/-! ### functions in memory -/
def fnVals (f : Fn) (ca : Option Addr) (cc : Nat) : List Value := [.string f.nm, .int .i64 f.args, .int .i64 f.slots, .slice ca f.code.length cc]
def FnIn (h : Nat → Option Obj) (f : Fn) (vs : List Value) : Prop := ∃ ca cc, vs = fnVals f ca cc ∧ RdIn h ca (f.code.flatMap InVals) ∧ f.code.length ≤ cc ∧ cc ≤ maxLen
def FsIn (h : Nat → Option Obj) (fs : List Fn) (fa : Option Addr) : Prop := ∀ i f, fs[i]? = some f → ∃ g off vs, fa = some ⟨g, off, none⟩ ∧ (∀ j u, vs[j]? = some u → cellIn h g (off + i * 4 + j) = some u) ∧ FnIn h f vs
structure FnOk (f : Fn) : Prop where
  args : fits f.args
  slots : fits f.slots
  code : ∀ x ∈ f.code, InOk x
  len : f.code.length ≤ 4398046510976
  nm : f.nm.size ≤ 140737488351232
section
variable {W w : World} {L : List HP} {h : Nat → Option Obj} {v : Nat} {nm fn : ByteArray} {la fa ca : Option Addr} {nl lc nf fc nc cc : Nat} {ar sl : Int}
set_option maxRecDepth 100000 in
theorem rowE_any (S : Sat W w (blk v (.cells (vetc [.string nm, .slice la nl lc, .slice fa nf fc] [.string fn, .int .i64 ar, .int .i64 sl, .slice ca nc cc]) 72 (0, 0)) :: arch h :: L)) (m : Md) (h2 : m.fs.length = nf) (x : In) (hin : FsIn h m.fs fa) (hb : x.op = 12 → BifC ∧ 0 ≤ x.a ∧ x.a < 40) (hs : x.op = 16 → 0 ≤ x.b ∧ x.b < nf) :
    Calls Tryd.prog 64 #[.pointer (some ⟨v, 0, none⟩), .agg (InVals x).toArray] w fun e w' => e = .returned (.tuple #[.int .i64 (rowE m x).1, .int .i64 (rowE m x).2]) ∧ Sat W w' (blk v (.cells (vetc [.string nm, .slice la nl lc, .slice fa nf fc] [.string fn, .int .i64 ar, .int .i64 sl, .slice ca nc cc]) 72 (0, 0)) :: arch h :: L) := by
  obtain ⟨op, a, b, c⟩ := x
  have S1 := hid (S.alloc' (.cells (InVals ⟨op, a, b, c⟩).toArray 36))
  have c2 : (w.alloc (.cells (InVals ⟨op, a, b, c⟩).toArray 36)).cell? ⟨v, 2, none⟩ = some (.slice fa nf fc) := S1.out.cell 2
  obtain ⟨r, HR⟩ : ∃ r, Hid (rowE m ⟨op, a, b, c⟩ = r) := ⟨_, hid rfl⟩
  rw [HR.out]
  unfold InVals at S1 c2 ⊢
  simp only at hb hs
  have S0 := hid S
  clear S
  by_cases e2 : op = 2
  · subst e2
    obtain rfl : r = (b, c) := by rw [← HR.out]; rfl
    clear HR
    go_enter Tryd.func64, Tryd.ntmps64
    go_wp2_with fail
    go_region_law (fail)
    all_goals go_wp2_with fail
    all_goals go_ret2
    all_goals exact ⟨rfl, S1.out.drew⟩
  by_cases e12 : op = 12
  · subst e12
    obtain ⟨hbc, ha1, ha2⟩ := hb rfl
    obtain rfl : r = (c, bifN.getD a.toNat 0) := by rw [← HR.out]; rfl
    clear HR hb
    have SX := hid (S0.out.allocAt (k := w.heap.size) (.cells #[.int .i64 12, .int .i64 a, .int .i64 b, .int .i64 c] 36) rfl)
    have HBN := hid (hbc a W _ _ SX.out)
    have hi : inB a 40 = true := decide_eq_true (by omega)
    rw [hi] at HBN
    simp only [if_true] at HBN
    clear SX
    go_enter Tryd.func64, Tryd.ntmps64
    go_wp2_with fail
    refine HBN.out.mono ?_
    rintro e w1 ⟨s, rfl, s1⟩
    have S2 := hid s1
    have k3 : w1.cell? ⟨w.heap.size, 3, none⟩ = some (.int .i64 c) := s1.cell 3
    clear s1 HBN c2
    go_wp2_with fail
    go_ret2
    exact ⟨rfl, S2.out.drop⟩
  by_cases e16 : op = 16
  · subst e16
    obtain ⟨hb1, hb2⟩ := hs rfl
    obtain ⟨i, rfl⟩ : ∃ i : Nat, b = i := ⟨b.toNat, by omega⟩
    obtain ⟨f, hf⟩ : ∃ f, m.fs[i]? = some f := ⟨_, List.getElem?_eq_getElem (by omega)⟩
    obtain rfl : r = (c, f.args) := by rw [← HR.out]; simp [rowE, argsAt, hf]
    obtain ⟨g, off, vs, rfl, hc, ca', cc', rfl, _⟩ := hin i f hf
    have k1 := S1.out.swap.cellIn (hc 1 _ rfl)
    clear HR hb hs hc
    go_enter Tryd.func64, Tryd.ntmps64
    go_wp2_with fail
    go_region_law (fail)
    all_goals go_wp2_with fail
    all_goals go_ret2
    all_goals exact ⟨rfl, S1.out.drew⟩
  by_cases e37 : op = 37
  · subst e37
    obtain rfl : r = (b, 3) := by rw [← HR.out]; rfl
    clear HR
    go_enter Tryd.func64, Tryd.ntmps64
    go_wp2_with fail
    go_ret2
    exact ⟨rfl, S1.out⟩
  obtain rfl : r = (0, 0) := by rw [← HR.out]; simp [rowE, e2, e12, e16, e37]
  clear HR
  go_enter Tryd.func64, Tryd.ntmps64
  go_wp2_with fail
  go_ret2
  exact ⟨rfl, S1.out⟩
end
#print axioms goes_any
end Go.Proofs.YtohdhckafebmhaaDoor
