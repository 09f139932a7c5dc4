/-
  bif: size, of a tuple. (Written by wip/gen/gen_bifsz.py.)
-/
import Derived.Test.YtlgogflhjpcmlaaDoorBifP
import Derived.Test.YtlgogflhjpcmlaaDoorHeldL
namespace Go.Proofs.YtlgogflhjpcmlaaDoor
open Go.RowKit
set_option maxHeartbeats 8000000
set_option maxRecDepth 100000
section
variable {W w : World} {L : List HP} {h : Nat → Option Obj} {cb : Nat}
theorem size_m (S : Sat W w (arch h :: L)) (t : T) (hc : CArg h cb 14 [t]) (hok : TOk t) (hk : t.k = 5) :
    Calls Tryd.prog 45 #[.pointer (some ⟨cb, 0, none⟩)] w (MethP W L h (some (tN ((t.is.length : Int) + (t.bs.length : Int))))) := by
  obtain ⟨a, c, hcb, hl⟩ := hc
  obtain ⟨g, off, us, rfl, hcy, hiy⟩ := hl.get (j := 0) (t := t) rfl
  obtain ⟨it, ict, rt, rct, yt, yct, rfl, hls, _⟩ := id hiy.vals
  obtain ⟨n, HN⟩ : ∃ n, Hid (t.is.length = n) := ⟨_, hid rfl⟩
  obtain ⟨m, HM⟩ : ∃ n, Hid (t.bs.length = n) := ⟨_, hid rfl⟩
  have hn : n ≤ 1353245080300 := by rw [← HN.out]; exact hok.fit.is
  have hm : m ≤ 140737488351232 := by rw [← HM.out]; exact hok.fit.bs
  rw [HN.out, HM.out]
  have g1 : wrap64 ((n : Int) + (m : Int)) = (n : Int) + (m : Int) := by unfold wrap64; omega
  have g2 : IntKind.i64.wrap ((n : Int) + (m : Int)) = (n : Int) + (m : Int) := (wrapi _).trans g1
  have HF : Hid (∀ (w' : World) (M : List HP), Sat W w' (arch h :: M) → World.cell? w' ⟨cb, 1, none⟩ = some (.slice (some ⟨g, off, none⟩) 1 c) ∧ World.cell? w' ⟨g, off, none⟩ = some (.int .i64 5) ∧ World.cell? w' ⟨g, off + 3, none⟩ = some (.slice it n ict) ∧ World.cell? w' ⟨g, off + 5, none⟩ = some (.slice yt m yct)) := hid (fun w' M s => by
    rw [← HN.out, ← HM.out, ← hk]
    exact ⟨(s.archCell hcb 1).trans rfl, cell_at s hcy 0 rfl (by omega), cell_at s hcy 3 rfl (by omega), cell_at s hcy 5 rfl (by omega)⟩)
  have SS := hid (S.allocAt (k := w.heap.size) (.cells #[.int .i64 0, .int .i64 0, .string ⟨#[]⟩, .slice none 0 0, .slice none 0 0, .slice none 0 0] 35) rfl).swap
  clear hcb hl hcy hiy S hls hok hk
  go_enter Tryd.func45, Tryd.ntmps45
  go_upto_region 1 with fail
  replace SS := hid SS.out.drew
  have hSw := HF.out _ _ SS.out
  refine wp_region_noPanic ?_
  refine wp_region_L (S := fun w' => World.cell? w' ⟨cb, 1, none⟩ = some (.slice (some ⟨g, off, none⟩) 1 c) ∧ World.cell? w' ⟨g, off, none⟩ = some (.int .i64 5) ∧ World.cell? w' ⟨g, off + 3, none⟩ = some (.slice it n ict) ∧ World.cell? w' ⟨g, off + 5, none⟩ = some (.slice yt m yct)) 37 (by kernel_rfl) ?_
  refine wpAnyL_pure (i := 0) (d := 4) (v := ?_) rfl (by kernel_rfl) (by kernel_rfl) (by kernel_rfl) (by kernel_rfl) (by decide) (fun _ _ _ h => h) (Or.inl ⟨by rfl, ?_⟩) (fun _ => hSw) ?_
  rotate_left
  · intro w _; go_simp; all_goals with_reducible rfl
  try simp only [Act.put, List.setIfInBounds_toArray, List.set_cons_zero, List.set_cons_succ]
  refine wpAnyL_pure (i := 1) (d := 5) (v := ?_) rfl (by kernel_rfl) (by kernel_rfl) (by kernel_rfl) (by kernel_rfl) (by decide) (fun _ _ _ h => h) (Or.inl ⟨by rfl, ?_⟩) (fun _ => hSw) ?_
  rotate_left
  · intro w _; go_simp; all_goals with_reducible rfl
  try simp only [Act.put, List.setIfInBounds_toArray, List.set_cons_zero, List.set_cons_succ]
  refine wpAnyL_pure (i := 2) (d := 6) (v := ?_) rfl (by kernel_rfl) (by kernel_rfl) (by kernel_rfl) (by kernel_rfl) (by decide) (fun _ _ _ h => h) (Or.inl ⟨by rfl, ?_⟩) (fun _ => hSw) ?_
  rotate_left
  · intro w _; go_simp; all_goals with_reducible rfl
  try simp only [Act.put, List.setIfInBounds_toArray, List.set_cons_zero, List.set_cons_succ]
  refine wpAnyL_load (i := 3) (d := 7) (v := ?_) rfl (by kernel_rfl) (by kernel_rfl) (by kernel_rfl) (by kernel_rfl) (by decide) (by kernel_rfl) (by kernel_rfl) (fun _ _ _ h => h) (Or.inl ⟨by rfl, ?_⟩) hSw ?_
  rotate_left
  · intro w hSw; (try dsimp only at hSw); go_simp; all_goals with_reducible rfl
  try simp only [Act.put, List.setIfInBounds_toArray, List.set_cons_zero, List.set_cons_succ]
  refine wpAnyL_pure (i := 4) (d := 8) (v := ?_) rfl (by kernel_rfl) (by kernel_rfl) (by kernel_rfl) (by kernel_rfl) (by decide) (fun _ _ _ h => h) (Or.inl ⟨by rfl, ?_⟩) (fun _ => hSw) ?_
  rotate_left
  · intro w _; go_simp; all_goals with_reducible rfl
  try simp only [Act.put, List.setIfInBounds_toArray, List.set_cons_zero, List.set_cons_succ]
  refine wpAnyL_pure (i := 5) (d := 9) (v := ?_) rfl (by kernel_rfl) (by kernel_rfl) (by kernel_rfl) (by kernel_rfl) (by decide) (fun _ _ _ h => h) (Or.inl ⟨by rfl, ?_⟩) (fun _ => hSw) ?_
  rotate_left
  · intro w _; go_simp; all_goals with_reducible rfl
  try simp only [Act.put, List.setIfInBounds_toArray, List.set_cons_zero, List.set_cons_succ]
  refine wpAnyL_load (i := 6) (d := 10) (v := ?_) rfl (by kernel_rfl) (by kernel_rfl) (by kernel_rfl) (by kernel_rfl) (by decide) (by kernel_rfl) (by kernel_rfl) (fun _ _ _ h => h) (Or.inl ⟨by rfl, ?_⟩) hSw ?_
  rotate_left
  · intro w hSw; (try dsimp only at hSw); go_simp; all_goals with_reducible rfl
  try simp only [Act.put, List.setIfInBounds_toArray, List.set_cons_zero, List.set_cons_succ]
  refine wpAnyL_pure (i := 7) (d := 11) (v := ?_) rfl (by kernel_rfl) (by kernel_rfl) (by kernel_rfl) (by kernel_rfl) (by decide) (fun _ _ _ h => h) (Or.inl ⟨by rfl, ?_⟩) (fun _ => hSw) ?_
  rotate_left
  · intro w _; go_simp; all_goals with_reducible rfl
  try simp only [Act.put, List.setIfInBounds_toArray, List.set_cons_zero, List.set_cons_succ]
  refine wpAnyL_pure (i := 8) (d := 12) (v := ?_) rfl (by kernel_rfl) (by kernel_rfl) (by kernel_rfl) (by kernel_rfl) (by decide) (fun _ _ _ h => h) (Or.inl ⟨by rfl, ?_⟩) (fun _ => hSw) ?_
  rotate_left
  · intro w _; go_simp; all_goals with_reducible rfl
  try simp only [Act.put, List.setIfInBounds_toArray, List.set_cons_zero, List.set_cons_succ]
  refine wpAnyL_pure (i := 9) (d := 13) (v := ?_) rfl (by kernel_rfl) (by kernel_rfl) (by kernel_rfl) (by kernel_rfl) (by decide) (fun _ _ _ h => h) (Or.inl ⟨by rfl, ?_⟩) (fun _ => hSw) ?_
  rotate_left
  · intro w _; go_simp; all_goals with_reducible rfl
  try simp only [Act.put, List.setIfInBounds_toArray, List.set_cons_zero, List.set_cons_succ]
  refine wpAnyL_pure (i := 10) (d := 14) (v := ?_) rfl (by kernel_rfl) (by kernel_rfl) (by kernel_rfl) (by kernel_rfl) (by decide) (fun _ _ _ h => h) (Or.inl ⟨by rfl, ?_⟩) (fun _ => hSw) ?_
  rotate_left
  · intro w _; go_simp; all_goals with_reducible rfl
  try simp only [Act.put, List.setIfInBounds_toArray, List.set_cons_zero, List.set_cons_succ]
  refine wpAnyL_load (i := 11) (d := 15) (v := ?_) rfl (by kernel_rfl) (by kernel_rfl) (by kernel_rfl) (by kernel_rfl) (by decide) (by kernel_rfl) (by kernel_rfl) (fun _ _ _ h => h) (Or.inl ⟨by rfl, ?_⟩) hSw ?_
  rotate_left
  · intro w hSw; (try dsimp only at hSw); go_simp; all_goals with_reducible rfl
  try simp only [Act.put, List.setIfInBounds_toArray, List.set_cons_zero, List.set_cons_succ]
  refine wpAnyL_pure (i := 12) (d := 16) (v := ?_) rfl (by kernel_rfl) (by kernel_rfl) (by kernel_rfl) (by kernel_rfl) (by decide) (fun _ _ _ h => h) (Or.inl ⟨by rfl, ?_⟩) (fun _ => hSw) ?_
  rotate_left
  · intro w _; go_simp; all_goals with_reducible rfl
  try simp only [Act.put, List.setIfInBounds_toArray, List.set_cons_zero, List.set_cons_succ]
  refine wpAnyL_pure (i := 13) (d := 17) (v := ?_) rfl (by kernel_rfl) (by kernel_rfl) (by kernel_rfl) (by kernel_rfl) (by decide) (fun _ _ _ h => h) (Or.inl ⟨by rfl, ?_⟩) (fun _ => hSw) ?_
  rotate_left
  · intro w _; go_simp; all_goals with_reducible rfl
  try simp only [Act.put, List.setIfInBounds_toArray, List.set_cons_zero, List.set_cons_succ]
  refine wpAnyL_load (i := 14) (d := 18) (v := ?_) rfl (by kernel_rfl) (by kernel_rfl) (by kernel_rfl) (by kernel_rfl) (by decide) (by kernel_rfl) (by kernel_rfl) (fun _ _ _ h => h) (Or.inl ⟨by rfl, ?_⟩) hSw ?_
  rotate_left
  · intro w hSw; (try dsimp only at hSw); go_simp; all_goals with_reducible rfl
  try simp only [Act.put, List.setIfInBounds_toArray, List.set_cons_zero, List.set_cons_succ]
  refine wpAnyL_pure (i := 15) (d := 19) (v := ?_) rfl (by kernel_rfl) (by kernel_rfl) (by kernel_rfl) (by kernel_rfl) (by decide) (fun _ _ _ h => h) (Or.inl ⟨by rfl, ?_⟩) (fun _ => hSw) ?_
  rotate_left
  · intro w _; go_simp; all_goals with_reducible rfl
  try simp only [Act.put, List.setIfInBounds_toArray, List.set_cons_zero, List.set_cons_succ]
  refine wpAnyL_pure (i := 16) (d := 20) (v := ?_) rfl (by kernel_rfl) (by kernel_rfl) (by kernel_rfl) (by kernel_rfl) (by decide) (fun _ _ _ h => h) (Or.inl ⟨by rfl, ?_⟩) (fun _ => hSw) ?_
  rotate_left
  · intro w _; go_simp; all_goals with_reducible rfl
  try simp only [Act.put, List.setIfInBounds_toArray, List.set_cons_zero, List.set_cons_succ]
  refine wpAnyL_pure (i := 18) (d := 22) (v := ?_) rfl (by kernel_rfl) (by kernel_rfl) (by kernel_rfl) (by kernel_rfl) (by decide) (fun _ _ _ h => h) (Or.inl ⟨by rfl, ?_⟩) (fun _ => hSw) ?_
  rotate_left
  · intro w _; go_simp; all_goals with_reducible rfl
  try simp only [Act.put, List.setIfInBounds_toArray, List.set_cons_zero, List.set_cons_succ]
  refine wpAnyL_pure (i := 19) (d := 23) (v := ?_) rfl (by kernel_rfl) (by kernel_rfl) (by kernel_rfl) (by kernel_rfl) (by decide) (fun _ _ _ h => h) (Or.inl ⟨by rfl, ?_⟩) (fun _ => hSw) ?_
  rotate_left
  · intro w _; go_simp; all_goals with_reducible rfl
  try simp only [Act.put, List.setIfInBounds_toArray, List.set_cons_zero, List.set_cons_succ]
  refine wpAnyL_pure (i := 20) (d := 24) (v := ?_) rfl (by kernel_rfl) (by kernel_rfl) (by kernel_rfl) (by kernel_rfl) (by decide) (fun _ _ _ h => h) (Or.inl ⟨by rfl, ?_⟩) (fun _ => hSw) ?_
  rotate_left
  · intro w _; go_simp; all_goals with_reducible rfl
  try simp only [Act.put, List.setIfInBounds_toArray, List.set_cons_zero, List.set_cons_succ]
  refine wpAnyL_load (i := 21) (d := 25) (v := ?_) rfl (by kernel_rfl) (by kernel_rfl) (by kernel_rfl) (by kernel_rfl) (by decide) (by kernel_rfl) (by kernel_rfl) (fun _ _ _ h => h) (Or.inl ⟨by rfl, ?_⟩) hSw ?_
  rotate_left
  · intro w hSw; (try dsimp only at hSw); go_simp; all_goals with_reducible rfl
  try simp only [Act.put, List.setIfInBounds_toArray, List.set_cons_zero, List.set_cons_succ]
  refine wpAnyL_pure (i := 22) (d := 26) (v := ?_) rfl (by kernel_rfl) (by kernel_rfl) (by kernel_rfl) (by kernel_rfl) (by decide) (fun _ _ _ h => h) (Or.inl ⟨by rfl, ?_⟩) (fun _ => hSw) ?_
  rotate_left
  · intro w _; go_simp; all_goals with_reducible rfl
  try simp only [Act.put, List.setIfInBounds_toArray, List.set_cons_zero, List.set_cons_succ]
  refine wpAnyL_pure (i := 23) (d := 27) (v := ?_) rfl (by kernel_rfl) (by kernel_rfl) (by kernel_rfl) (by kernel_rfl) (by decide) (fun _ _ _ h => h) (Or.inl ⟨by rfl, ?_⟩) (fun _ => hSw) ?_
  rotate_left
  · intro w _; go_simp; all_goals with_reducible rfl
  try simp only [Act.put, List.setIfInBounds_toArray, List.set_cons_zero, List.set_cons_succ]
  refine wpAnyL_load (i := 24) (d := 28) (v := ?_) rfl (by kernel_rfl) (by kernel_rfl) (by kernel_rfl) (by kernel_rfl) (by decide) (by kernel_rfl) (by kernel_rfl) (fun _ _ _ h => h) (Or.inl ⟨by rfl, ?_⟩) hSw ?_
  rotate_left
  · intro w hSw; (try dsimp only at hSw); go_simp; all_goals with_reducible rfl
  try simp only [Act.put, List.setIfInBounds_toArray, List.set_cons_zero, List.set_cons_succ]
  refine wpAnyL_pure (i := 25) (d := 29) (v := ?_) rfl (by kernel_rfl) (by kernel_rfl) (by kernel_rfl) (by kernel_rfl) (by decide) (fun _ _ _ h => h) (Or.inl ⟨by rfl, ?_⟩) (fun _ => hSw) ?_
  rotate_left
  · intro w _; go_simp; all_goals with_reducible rfl
  try simp only [Act.put, List.setIfInBounds_toArray, List.set_cons_zero, List.set_cons_succ]
  refine wpAnyL_ready (rs := [17]) (by kernel_rfl) (by simp) ?_
  refine AllL.cons (o := _) rfl (fun K hK => ?_) AllL.nil
  go_simp
  go_at_call 43
  refine (numb_any SS.out _).mono ?_
  rintro e wn ⟨rfl, s⟩
  replace SS := hid s
  clear s
  replace hSw := HF.out _ _ SS.out
  refine hK.out _ _ (fun _ => hSw) ?_
  clear hK K
  try simp only [Act.put, List.setIfInBounds_toArray, List.set_cons_zero, List.set_cons_succ]
  refine wpAnyL_pure (i := 26) (d := 30) (v := ?_) rfl (by kernel_rfl) (by kernel_rfl) (by kernel_rfl) (by kernel_rfl) (by decide) (fun _ _ _ h => h) (Or.inl ⟨by rfl, ?_⟩) (fun _ => hSw) ?_
  rotate_left
  · intro w _; go_simp; all_goals with_reducible rfl
  try simp only [Act.put, List.setIfInBounds_toArray, List.set_cons_zero, List.set_cons_succ]
  refine wpAnyL_pure (i := 27) (d := 31) (v := undef) rfl (by kernel_rfl) (by kernel_rfl) (by kernel_rfl) (by kernel_rfl) (by decide) (fun _ _ _ h => h) (Or.inr ⟨by rfl, rfl⟩) (fun _ => hSw) ?_
  try simp only [Act.put, List.setIfInBounds_toArray, List.set_cons_zero, List.set_cons_succ]
  refine wpAnyL_pure (i := 28) (d := 32) (v := undef) rfl (by kernel_rfl) (by kernel_rfl) (by kernel_rfl) (by kernel_rfl) (by decide) (fun _ _ _ h => h) (Or.inr ⟨by rfl, rfl⟩) (fun _ => hSw) ?_
  try simp only [Act.put, List.setIfInBounds_toArray, List.set_cons_zero, List.set_cons_succ]
  refine wpAnyL_pure (i := 29) (d := 33) (v := undef) rfl (by kernel_rfl) (by kernel_rfl) (by kernel_rfl) (by kernel_rfl) (by decide) (fun _ _ _ h => h) (Or.inr ⟨by rfl, rfl⟩) (fun _ => hSw) ?_
  try simp only [Act.put, List.setIfInBounds_toArray, List.set_cons_zero, List.set_cons_succ]
  refine wpAnyL_pure (i := 30) (d := 34) (v := undef) rfl (by kernel_rfl) (by kernel_rfl) (by kernel_rfl) (by kernel_rfl) (by decide) (fun _ _ _ h => h) (Or.inr ⟨by rfl, rfl⟩) (fun _ => hSw) ?_
  try simp only [Act.put, List.setIfInBounds_toArray, List.set_cons_zero, List.set_cons_succ]
  refine wpAnyL_pure (i := 31) (d := 35) (v := undef) rfl (by kernel_rfl) (by kernel_rfl) (by kernel_rfl) (by kernel_rfl) (by decide) (fun _ _ _ h => h) (Or.inr ⟨by rfl, rfl⟩) (fun _ => hSw) ?_
  try simp only [Act.put, List.setIfInBounds_toArray, List.set_cons_zero, List.set_cons_succ]
  refine wpAnyL_pure (i := 32) (d := 36) (v := undef) rfl (by kernel_rfl) (by kernel_rfl) (by kernel_rfl) (by kernel_rfl) (by decide) (fun _ _ _ h => h) (Or.inr ⟨by rfl, rfl⟩) (fun _ => hSw) ?_
  try simp only [Act.put, List.setIfInBounds_toArray, List.set_cons_zero, List.set_cons_succ]
  refine wpAnyL_pure (i := 33) (d := 37) (v := undef) rfl (by kernel_rfl) (by kernel_rfl) (by kernel_rfl) (by kernel_rfl) (by decide) (fun _ _ _ h => h) (Or.inr ⟨by rfl, rfl⟩) (fun _ => hSw) ?_
  try simp only [Act.put, List.setIfInBounds_toArray, List.set_cons_zero, List.set_cons_succ]
  refine wpAnyL_pure (i := 34) (d := 38) (v := undef) rfl (by kernel_rfl) (by kernel_rfl) (by kernel_rfl) (by kernel_rfl) (by decide) (fun _ _ _ h => h) (Or.inr ⟨by rfl, rfl⟩) (fun _ => hSw) ?_
  try simp only [Act.put, List.setIfInBounds_toArray, List.set_cons_zero, List.set_cons_succ]
  refine wpAnyL_pure (i := 35) (d := 39) (v := ?_) rfl (by kernel_rfl) (by kernel_rfl) (by kernel_rfl) (by kernel_rfl) (by decide) (fun _ _ _ h => h) (Or.inl ⟨by rfl, ?_⟩) (fun _ => hSw) ?_
  rotate_left
  · intro w _; go_simp; all_goals with_reducible rfl
  try simp only [Act.put, List.setIfInBounds_toArray, List.set_cons_zero, List.set_cons_succ]
  have z0 : World.cell? wn ⟨w.heap.size, 0, none⟩ = some (.int .i64 0) := SS.out.swap.cell 0
  have f0 := SS.out.swap.free 0
  have z1 : World.cell? wn ⟨w.heap.size, 1, none⟩ = some (.int .i64 0) := SS.out.swap.cell 1
  have f1 := SS.out.swap.free 1
  have z2 : World.cell? wn ⟨w.heap.size, 2, none⟩ = some (.string ⟨#[]⟩) := SS.out.swap.cell 2
  have f2 := SS.out.swap.free 2
  have z3 : World.cell? wn ⟨w.heap.size, 3, none⟩ = some (.slice none 0 0) := SS.out.swap.cell 3
  have f3 := SS.out.swap.free 3
  have z4 : World.cell? wn ⟨w.heap.size, 4, none⟩ = some (.slice none 0 0) := SS.out.swap.cell 4
  have f4 := SS.out.swap.free 4
  have z5 : World.cell? wn ⟨w.heap.size, 5, none⟩ = some (.slice none 0 0) := SS.out.swap.cell 5
  have f5 := SS.out.swap.free 5
  refine wpAnyL_ready (rs := [36]) (by kernel_rfl) (by simp) ?_
  refine AllL.cons (o := _) rfl (fun K hK => ?_) AllL.nil
  go_simp
  replace SS := hid ((((((SS.out.swap.set 0 (.int .i64 1)).set 1 (.int .i64 ((n : Int) + (m : Int)))).set 2 (.string ⟨#[]⟩)).set 3 (.slice none 0 0)).set 4 (.slice none 0 0)).set 5 (.slice none 0 0)).swap
  replace hSw := HF.out _ _ SS.out
  refine hK.out _ _ (fun _ => hSw) ?_
  clear hK K
  try simp only [Act.put, List.setIfInBounds_toArray, List.set_cons_zero, List.set_cons_succ]
  refine wpAnyL_ready (rs := [37]) (by kernel_rfl) (by simp) ?_
  refine AllL.cons (o := _) rfl (fun K hK => ?_) AllL.nil
  go_simp
  refine hK.out _ _ (fun hv => absurd hv (by decide +kernel)) ?_
  clear hK K
  try simp only [Act.put, List.setIfInBounds_toArray, List.set_cons_zero, List.set_cons_succ]
  refine wpAnyL_done (by kernel_rfl) ?_ _
  refine NoPanic.normal ?_
  clear hSw HF
  go_wp2_with fail
  refine bodyPost_ret (v := .tuple #[.agg #[.int .i64 1, .int .i64 ((n : Int) + (m : Int)), .string ⟨#[]⟩, .slice none 0 0, .slice none 0 0, .slice none 0 0], .bool true]) (by simp [results, Tryd.results45, go_sem, z0, z1, z2, z3, z4, z5]) rfl ?_
  exact MethP.some' rfl (Le.refl _) SS.out.swap.drop (in_N _ _)
end
#print axioms size_m
end Go.Proofs.YtlgogflhjpcmlaaDoor
