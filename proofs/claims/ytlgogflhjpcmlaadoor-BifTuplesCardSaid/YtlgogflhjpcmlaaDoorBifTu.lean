/-
  The law's do of element, setelement, size. (Written by wip/gen/gen_biftu.py.)
-/
import Derived.Test.YtlgogflhjpcmlaaDoorBifSe
import Derived.Test.YtlgogflhjpcmlaaDoorBifSz
import Derived.Test.YtlgogflhjpcmlaaDoorBifQ
namespace Go.Proofs.YtlgogflhjpcmlaaDoor
open Go.RowKit
set_option maxHeartbeats 4000000
set_option maxRecDepth 100000
section
variable {W w : World} {L : List HP} {h : Nat → Option Obj}
theorem lawdo_of (q : TabS h) (S : Sat W w (arch h :: L)) {i m : Nat} {nm : ByteArray} {fo : Option Nat} (F : FnOk i nm m fo) (ts : List T) (a : Option Addr) (c : Nat) (hla : LIn h ts a 0) (hn : ts.length = m) (hok : ∀ t ∈ ts, TOk t) (_hrt : ∀ t ∈ ts, rightOf t = none)
    (r : Option T) (hdo : ∀ (w : World) (h' : Nat → Option Obj) (L : List HP) (a : Option Addr) (c : Nat), Le h h' → Sat W w (arch h' :: L) → LIn h' ts a 0 → Calls Tryd.prog 18 #[.int .i64 i, .slice a m c] w (DoP W L h' i r)) :
    Calls Tryd.prog 23 #[.string nm, .slice a m c] w (DoL W L h r) := by
  obtain ⟨hnum, l, k, hk, hl, hm, hm9, hfo, hcf⟩ := F
  have S1 := hid (S.allocAt (k := w.heap.size) (.cells #[.int .i64 0, .int .i64 0, .string ⟨#[]⟩, .slice none 0 0, .slice none 0 0, .slice none 0 0] 35) rfl).swap
  have HN := hid (number_any q S1.out nm)
  rw [hnum] at HN
  have HCP : Hid (∀ (w : World) (L : List HP), Sat W w (arch h :: L) → Calls Tryd.prog 17 #[.slice a m c] w fun e w' => ∃ a' c' vss h', e = .returned (.slice a' m c') ∧ Le h h' ∧ TsIn h' ts vss ∧ Sat W w' (row 35 6 a' m c' vss.flatten :: arch h' :: L)) := hid (fun w L s => copyAll_of s ts a m c hn.symm hla (by omega) (fun t ht => copy_t t (hok t ht)))
  have HDO := hid hdo
  clear S q hnum hk hl hm hfo hcf hla hok hdo hn
  go_enter Tryd.func23, Tryd.ntmps23
  go_wp2_with fail
  refine HN.out.mono ?_
  rintro e w1 ⟨rfl, s1⟩
  have HC2 := hid (HCP.out w1 _ s1)
  clear s1 HN HCP S1
  go_wp2_with fail
  refine HC2.out.mono ?_
  rintro e w2 ⟨a', c', vss, h1, rfl, l1, q1, s2⟩
  obtain ⟨h2, l2, r2, s3⟩ := store_row s2
  have HD2 := hid (HDO.out w2 h2 _ a' c' (l1.trans l2) s3 (LIn.of_rd (q1.mono l2) r2))
  have LE2 := hid (l1.trans l2)
  clear HC2 HDO l1 q1 s2 l2 r2 s3
  go_wp2_with fail
  refine HD2.out.mono ?_
  rintro e w3 ⟨t, vs, h3, why, rfl, l3, s3, q3, hs, hn⟩
  obtain ⟨ia, ic, ra, rc, ba, bc, rfl, _⟩ := id q3.vals
  unfold tVals
  have HQ := hid q3
  have HLE := hid (LE2.out.trans l3)
  unfold tVals at HQ
  obtain ⟨tb, HTB⟩ : ∃ tb, Hid (w3.heap.size = tb) := ⟨_, hid rfl⟩
  have S3 := hid (s3.allocAt (k := w3.heap.size) (.cells #[.int .i64 t.k, .int .i64 t.n, .string t.nm, .slice ia t.is.length ic, .slice ra t.rs.length rc, .slice ba t.bs.length bc] 35) rfl).swap
  rw [HTB.out] at S3
  clear s3 q3 l3 HD2 LE2
  have z0 : World.cell? _ ⟨w.heap.size, 0, none⟩ = some (.int .i64 0) := S3.out.rot3.cell 0
  have f0 := S3.out.rot3.free 0
  have z1 : World.cell? _ ⟨w.heap.size, 1, none⟩ = some (.int .i64 0) := S3.out.rot3.cell 1
  have f1 := S3.out.rot3.free 1
  have z2 : World.cell? _ ⟨w.heap.size, 2, none⟩ = some (.string ⟨#[]⟩) := S3.out.rot3.cell 2
  have f2 := S3.out.rot3.free 2
  have z3 : World.cell? _ ⟨w.heap.size, 3, none⟩ = some (.slice none 0 0) := S3.out.rot3.cell 3
  have f3 := S3.out.rot3.free 3
  have z4 : World.cell? _ ⟨w.heap.size, 4, none⟩ = some (.slice none 0 0) := S3.out.rot3.cell 4
  have f4 := S3.out.rot3.free 4
  have z5 : World.cell? _ ⟨w.heap.size, 5, none⟩ = some (.slice none 0 0) := S3.out.rot3.cell 5
  have f5 := S3.out.rot3.free 5
  have hSw := cells6 S3.out.drew.swap
  rcases (show (∃ u, r = some u ∧ why = ⟨#[]⟩) ∨ (r = none ∧ (why = ⟨#[98, 97, 100, 97, 114, 105, 116, 104]⟩ ∨ why = ⟨#[98, 97, 100, 97, 114, 103]⟩)) by
    cases r with
    | none => exact .inr ⟨rfl, by rw [(hn rfl).2]; exact reason_two i⟩
    | some u => exact .inl ⟨u, rfl, (hs u rfl).2⟩) with ⟨u, rfl, rfl⟩ | ⟨rfl, rfl | rfl⟩
  · obtain rfl := (hs u rfl).1
    clear hs hn
    go_wp2_with fail
    rw [HTB.out]
    refine wp_region_noPanic ?_
    refine wp_region_L (S := fun w' => World.cell? w' ⟨tb, 0, none⟩ = some (.int .i64 t.k) ∧ World.cell? w' ⟨tb, 1, none⟩ = some (.int .i64 t.n) ∧ World.cell? w' ⟨tb, 2, none⟩ = some (.string t.nm) ∧ World.cell? w' ⟨tb, 3, none⟩ = some (.slice ia t.is.length ic) ∧ World.cell? w' ⟨tb, 4, none⟩ = some (.slice ra t.rs.length rc) ∧ World.cell? w' ⟨tb, 5, none⟩ = some (.slice ba t.bs.length bc)) 7 (by kernel_rfl) ?_
    refine wpAnyL_pure (i := 1) (d := 19) (v := ?_) rfl (by kernel_rfl) (by kernel_rfl) (by kernel_rfl) (by kernel_rfl) (by decide) (fun _ _ _ h => h) (Or.inl ⟨by rfl, ?_⟩) (fun _ => hSw) ?_
    rotate_left
    · intro w _; go_simp; all_goals with_reducible rfl
    try simp only [Act.put, List.setIfInBounds_toArray, List.set_cons_zero, List.set_cons_succ]
    refine wpAnyL_pure (i := 2) (d := 20) (v := ?_) rfl (by kernel_rfl) (by kernel_rfl) (by kernel_rfl) (by kernel_rfl) (by decide) (fun _ _ _ h => h) (Or.inl ⟨by rfl, ?_⟩) (fun _ => hSw) ?_
    rotate_left
    · intro w _; go_simp; all_goals with_reducible rfl
    try simp only [Act.put, List.setIfInBounds_toArray, List.set_cons_zero, List.set_cons_succ]
    refine wpAnyL_pure (i := 3) (d := 21) (v := ?_) rfl (by kernel_rfl) (by kernel_rfl) (by kernel_rfl) (by kernel_rfl) (by decide) (fun _ _ _ h => h) (Or.inl ⟨by rfl, ?_⟩) (fun _ => hSw) ?_
    rotate_left
    · intro w _; go_simp; all_goals with_reducible rfl
    try simp only [Act.put, List.setIfInBounds_toArray, List.set_cons_zero, List.set_cons_succ]
    refine wpAnyL_pure (i := 4) (d := 22) (v := ?_) rfl (by kernel_rfl) (by kernel_rfl) (by kernel_rfl) (by kernel_rfl) (by decide) (fun _ _ _ h => h) (Or.inl ⟨by rfl, ?_⟩) (fun _ => hSw) ?_
    rotate_left
    · intro w _; go_simp; all_goals with_reducible rfl
    try simp only [Act.put, List.setIfInBounds_toArray, List.set_cons_zero, List.set_cons_succ]
    refine wpAnyL_pure (i := 5) (d := 23) (v := ?_) rfl (by kernel_rfl) (by kernel_rfl) (by kernel_rfl) (by kernel_rfl) (by decide) (fun _ _ _ h => h) (Or.inl ⟨by rfl, ?_⟩) (fun _ => hSw) ?_
    rotate_left
    · intro w _; go_simp; all_goals with_reducible rfl
    try simp only [Act.put, List.setIfInBounds_toArray, List.set_cons_zero, List.set_cons_succ]
    refine wpAnyL_pure (i := 6) (d := 24) (v := ?_) rfl (by kernel_rfl) (by kernel_rfl) (by kernel_rfl) (by kernel_rfl) (by decide) (fun _ _ _ h => h) (Or.inl ⟨by rfl, ?_⟩) (fun _ => hSw) ?_
    rotate_left
    · intro w _; go_simp; all_goals with_reducible rfl
    try simp only [Act.put, List.setIfInBounds_toArray, List.set_cons_zero, List.set_cons_succ]
    refine wpAnyL_load (i := 0) (d := 18) (v := ?_) rfl (by kernel_rfl) (by kernel_rfl) (by kernel_rfl) (by kernel_rfl) (by decide) (by kernel_rfl) (by kernel_rfl) (fun _ _ _ h => h) (Or.inl ⟨by rfl, ?_⟩) hSw ?_
    rotate_left
    · intro w hSw; (try dsimp only at hSw); go_simp; all_goals with_reducible rfl
    try simp only [Act.put, List.setIfInBounds_toArray, List.set_cons_zero, List.set_cons_succ]
    refine wpAnyL_ready (rs := [7]) (by kernel_rfl) (by simp) ?_
    refine AllL.cons (o := _) rfl (fun K hK => ?_) AllL.nil
    go_simp
    refine hK.out _ _ (fun hv => absurd hv (by decide +kernel)) ?_
    clear hK K
    try simp only [Act.put, List.setIfInBounds_toArray, List.set_cons_zero, List.set_cons_succ]
    refine wpAnyL_ready (rs := [8]) (by kernel_rfl) (by simp) ?_
    refine AllL.cons (o := _) rfl (fun K hK => ?_) AllL.nil
    go_simp
    refine hK.out _ _ (fun hv => absurd hv (by decide +kernel)) ?_
    clear hK K
    try simp only [Act.put, List.setIfInBounds_toArray, List.set_cons_zero, List.set_cons_succ]
    refine wpAnyL_done (by kernel_rfl) ?_ _
    refine NoPanic.normal ?_
    go_wp2_with fail
    have s8 := ((((((S3.out.rot3.set 0 (.int .i64 t.k)).set 1 (.int .i64 t.n)).set 2 (.string t.nm)).set 3 (.slice ia t.is.length ic)).set 4 (.slice ra t.rs.length rc)).set 5 (.slice ba t.bs.length bc)).drop.swap.drop.drew
    refine bodyPost_ret (v := .tuple #[.agg #[.int .i64 t.k, .int .i64 t.n, .string t.nm, .slice ia t.is.length ic, .slice ra t.rs.length rc, .slice ba t.bs.length bc], .bool true]) (by simp [results, Tryd.results23, go_sem, z0, z1, z2, z3, z4, z5]) rfl ?_
    exact ⟨_, h3, rfl, HLE.out, s8, HQ.out⟩
  · obtain rfl := (hn rfl).1
    clear hs hn
    go_wp2_with fail
    rw [HTB.out]
    refine wp_region_noPanic ?_
    refine wp_region_L (S := fun w' => World.cell? w' ⟨tb, 0, none⟩ = some (.int .i64 tZ0.k) ∧ World.cell? w' ⟨tb, 1, none⟩ = some (.int .i64 tZ0.n) ∧ World.cell? w' ⟨tb, 2, none⟩ = some (.string tZ0.nm) ∧ World.cell? w' ⟨tb, 3, none⟩ = some (.slice ia tZ0.is.length ic) ∧ World.cell? w' ⟨tb, 4, none⟩ = some (.slice ra tZ0.rs.length rc) ∧ World.cell? w' ⟨tb, 5, none⟩ = some (.slice ba tZ0.bs.length bc)) 7 (by kernel_rfl) ?_
    refine wpAnyL_pure (i := 1) (d := 19) (v := ?_) rfl (by kernel_rfl) (by kernel_rfl) (by kernel_rfl) (by kernel_rfl) (by decide) (fun _ _ _ h => h) (Or.inl ⟨by rfl, ?_⟩) (fun _ => hSw) ?_
    rotate_left
    · intro w _; go_simp; all_goals with_reducible rfl
    try simp only [Act.put, List.setIfInBounds_toArray, List.set_cons_zero, List.set_cons_succ]
    refine wpAnyL_pure (i := 2) (d := 20) (v := ?_) rfl (by kernel_rfl) (by kernel_rfl) (by kernel_rfl) (by kernel_rfl) (by decide) (fun _ _ _ h => h) (Or.inl ⟨by rfl, ?_⟩) (fun _ => hSw) ?_
    rotate_left
    · intro w _; go_simp; all_goals with_reducible rfl
    try simp only [Act.put, List.setIfInBounds_toArray, List.set_cons_zero, List.set_cons_succ]
    refine wpAnyL_pure (i := 3) (d := 21) (v := ?_) rfl (by kernel_rfl) (by kernel_rfl) (by kernel_rfl) (by kernel_rfl) (by decide) (fun _ _ _ h => h) (Or.inl ⟨by rfl, ?_⟩) (fun _ => hSw) ?_
    rotate_left
    · intro w _; go_simp; all_goals with_reducible rfl
    try simp only [Act.put, List.setIfInBounds_toArray, List.set_cons_zero, List.set_cons_succ]
    refine wpAnyL_pure (i := 4) (d := 22) (v := undef) rfl (by kernel_rfl) (by kernel_rfl) (by kernel_rfl) (by kernel_rfl) (by decide) (fun _ _ _ h => h) (Or.inr ⟨by rfl, rfl⟩) (fun _ => hSw) ?_
    try simp only [Act.put, List.setIfInBounds_toArray, List.set_cons_zero, List.set_cons_succ]
    refine wpAnyL_pure (i := 5) (d := 23) (v := undef) rfl (by kernel_rfl) (by kernel_rfl) (by kernel_rfl) (by kernel_rfl) (by decide) (fun _ _ _ h => h) (Or.inr ⟨by rfl, rfl⟩) (fun _ => hSw) ?_
    try simp only [Act.put, List.setIfInBounds_toArray, List.set_cons_zero, List.set_cons_succ]
    refine wpAnyL_pure (i := 6) (d := 24) (v := ?_) rfl (by kernel_rfl) (by kernel_rfl) (by kernel_rfl) (by kernel_rfl) (by decide) (fun _ _ _ h => h) (Or.inl ⟨by rfl, ?_⟩) (fun _ => hSw) ?_
    rotate_left
    · intro w _; go_simp; all_goals with_reducible rfl
    try simp only [Act.put, List.setIfInBounds_toArray, List.set_cons_zero, List.set_cons_succ]
    refine wpAnyL_load (i := 0) (d := 18) (v := ?_) rfl (by kernel_rfl) (by kernel_rfl) (by kernel_rfl) (by kernel_rfl) (by decide) (by kernel_rfl) (by kernel_rfl) (fun _ _ _ h => h) (Or.inl ⟨by rfl, ?_⟩) hSw ?_
    rotate_left
    · intro w hSw; (try dsimp only at hSw); go_simp; all_goals with_reducible rfl
    try simp only [Act.put, List.setIfInBounds_toArray, List.set_cons_zero, List.set_cons_succ]
    refine wpAnyL_ready (rs := [7]) (by kernel_rfl) (by simp) ?_
    refine AllL.cons (o := _) rfl (fun K hK => ?_) AllL.nil
    go_simp
    refine hK.out _ _ (fun hv => absurd hv (by decide +kernel)) ?_
    clear hK K
    try simp only [Act.put, List.setIfInBounds_toArray, List.set_cons_zero, List.set_cons_succ]
    refine wpAnyL_ready (rs := [8]) (by kernel_rfl) (by simp) ?_
    refine AllL.cons (o := _) rfl (fun K hK => ?_) AllL.nil
    go_simp
    refine hK.out _ _ (fun hv => absurd hv (by decide +kernel)) ?_
    clear hK K
    try simp only [Act.put, List.setIfInBounds_toArray, List.set_cons_zero, List.set_cons_succ]
    refine wpAnyL_done (by kernel_rfl) ?_ _
    refine NoPanic.normal ?_
    go_wp2_with fail
    have s8 := ((((((S3.out.rot3.set 0 (.int .i64 tZ0.k)).set 1 (.int .i64 tZ0.n)).set 2 (.string tZ0.nm)).set 3 (.slice ia tZ0.is.length ic)).set 4 (.slice ra tZ0.rs.length rc)).set 5 (.slice ba tZ0.bs.length bc)).drop.swap.drop.drew
    refine bodyPost_ret (v := .tuple #[.agg #[.int .i64 tZ0.k, .int .i64 tZ0.n, .string tZ0.nm, .slice ia tZ0.is.length ic, .slice ra tZ0.rs.length rc, .slice ba tZ0.bs.length bc], .bool false]) (by simp [results, Tryd.results23, go_sem, z0, z1, z2, z3, z4, z5]) rfl ?_
    exact ⟨_, h3, rfl, HLE.out, s8, HQ.out⟩
  · obtain rfl := (hn rfl).1
    clear hs hn
    go_wp2_with fail
    rw [HTB.out]
    refine wp_region_noPanic ?_
    refine wp_region_L (S := fun w' => World.cell? w' ⟨tb, 0, none⟩ = some (.int .i64 tZ0.k) ∧ World.cell? w' ⟨tb, 1, none⟩ = some (.int .i64 tZ0.n) ∧ World.cell? w' ⟨tb, 2, none⟩ = some (.string tZ0.nm) ∧ World.cell? w' ⟨tb, 3, none⟩ = some (.slice ia tZ0.is.length ic) ∧ World.cell? w' ⟨tb, 4, none⟩ = some (.slice ra tZ0.rs.length rc) ∧ World.cell? w' ⟨tb, 5, none⟩ = some (.slice ba tZ0.bs.length bc)) 7 (by kernel_rfl) ?_
    refine wpAnyL_pure (i := 1) (d := 19) (v := ?_) rfl (by kernel_rfl) (by kernel_rfl) (by kernel_rfl) (by kernel_rfl) (by decide) (fun _ _ _ h => h) (Or.inl ⟨by rfl, ?_⟩) (fun _ => hSw) ?_
    rotate_left
    · intro w _; go_simp; all_goals with_reducible rfl
    try simp only [Act.put, List.setIfInBounds_toArray, List.set_cons_zero, List.set_cons_succ]
    refine wpAnyL_pure (i := 2) (d := 20) (v := ?_) rfl (by kernel_rfl) (by kernel_rfl) (by kernel_rfl) (by kernel_rfl) (by decide) (fun _ _ _ h => h) (Or.inl ⟨by rfl, ?_⟩) (fun _ => hSw) ?_
    rotate_left
    · intro w _; go_simp; all_goals with_reducible rfl
    try simp only [Act.put, List.setIfInBounds_toArray, List.set_cons_zero, List.set_cons_succ]
    refine wpAnyL_pure (i := 3) (d := 21) (v := ?_) rfl (by kernel_rfl) (by kernel_rfl) (by kernel_rfl) (by kernel_rfl) (by decide) (fun _ _ _ h => h) (Or.inl ⟨by rfl, ?_⟩) (fun _ => hSw) ?_
    rotate_left
    · intro w _; go_simp; all_goals with_reducible rfl
    try simp only [Act.put, List.setIfInBounds_toArray, List.set_cons_zero, List.set_cons_succ]
    refine wpAnyL_pure (i := 4) (d := 22) (v := undef) rfl (by kernel_rfl) (by kernel_rfl) (by kernel_rfl) (by kernel_rfl) (by decide) (fun _ _ _ h => h) (Or.inr ⟨by rfl, rfl⟩) (fun _ => hSw) ?_
    try simp only [Act.put, List.setIfInBounds_toArray, List.set_cons_zero, List.set_cons_succ]
    refine wpAnyL_pure (i := 5) (d := 23) (v := undef) rfl (by kernel_rfl) (by kernel_rfl) (by kernel_rfl) (by kernel_rfl) (by decide) (fun _ _ _ h => h) (Or.inr ⟨by rfl, rfl⟩) (fun _ => hSw) ?_
    try simp only [Act.put, List.setIfInBounds_toArray, List.set_cons_zero, List.set_cons_succ]
    refine wpAnyL_pure (i := 6) (d := 24) (v := ?_) rfl (by kernel_rfl) (by kernel_rfl) (by kernel_rfl) (by kernel_rfl) (by decide) (fun _ _ _ h => h) (Or.inl ⟨by rfl, ?_⟩) (fun _ => hSw) ?_
    rotate_left
    · intro w _; go_simp; all_goals with_reducible rfl
    try simp only [Act.put, List.setIfInBounds_toArray, List.set_cons_zero, List.set_cons_succ]
    refine wpAnyL_load (i := 0) (d := 18) (v := ?_) rfl (by kernel_rfl) (by kernel_rfl) (by kernel_rfl) (by kernel_rfl) (by decide) (by kernel_rfl) (by kernel_rfl) (fun _ _ _ h => h) (Or.inl ⟨by rfl, ?_⟩) hSw ?_
    rotate_left
    · intro w hSw; (try dsimp only at hSw); go_simp; all_goals with_reducible rfl
    try simp only [Act.put, List.setIfInBounds_toArray, List.set_cons_zero, List.set_cons_succ]
    refine wpAnyL_ready (rs := [7]) (by kernel_rfl) (by simp) ?_
    refine AllL.cons (o := _) rfl (fun K hK => ?_) AllL.nil
    go_simp
    refine hK.out _ _ (fun hv => absurd hv (by decide +kernel)) ?_
    clear hK K
    try simp only [Act.put, List.setIfInBounds_toArray, List.set_cons_zero, List.set_cons_succ]
    refine wpAnyL_ready (rs := [8]) (by kernel_rfl) (by simp) ?_
    refine AllL.cons (o := _) rfl (fun K hK => ?_) AllL.nil
    go_simp
    refine hK.out _ _ (fun hv => absurd hv (by decide +kernel)) ?_
    clear hK K
    try simp only [Act.put, List.setIfInBounds_toArray, List.set_cons_zero, List.set_cons_succ]
    refine wpAnyL_done (by kernel_rfl) ?_ _
    refine NoPanic.normal ?_
    go_wp2_with fail
    have s8 := ((((((S3.out.rot3.set 0 (.int .i64 tZ0.k)).set 1 (.int .i64 tZ0.n)).set 2 (.string tZ0.nm)).set 3 (.slice ia tZ0.is.length ic)).set 4 (.slice ra tZ0.rs.length rc)).set 5 (.slice ba tZ0.bs.length bc)).drop.swap.drop.drew
    refine bodyPost_ret (v := .tuple #[.agg #[.int .i64 tZ0.k, .int .i64 tZ0.n, .string tZ0.nm, .slice ia tZ0.is.length ic, .slice ra tZ0.rs.length rc, .slice ba tZ0.bs.length bc], .bool false]) (by simp [results, Tryd.results23, go_sem, z0, z1, z2, z3, z4, z5]) rfl ?_
    exact ⟨_, h3, rfl, HLE.out, s8, HQ.out⟩

end
theorem fnk_element : FnOk 15 ⟨#[101, 108, 101, 109, 101, 110, 116]⟩ 2 (some 46) := ⟨by decide +kernel, [101, 108, 101, 109, 101, 110, 116, 50], 7, rfl, rfl, by decide, by decide, by decide +kernel, by intro f hf args w; cases hf; exact callFunc_enter Tryd.func46 (by kernel_rfl) rfl args w⟩
theorem fnk_setelement : FnOk 16 ⟨#[115, 101, 116, 101, 108, 101, 109, 101, 110, 116]⟩ 3 (some 47) := ⟨by decide +kernel, [115, 101, 116, 101, 108, 101, 109, 101, 110, 116, 51], 10, rfl, rfl, by decide, by decide, by decide +kernel, by intro f hf args w; cases hf; exact callFunc_enter Tryd.func47 (by kernel_rfl) rfl args w⟩
theorem fnk_size : FnOk 14 ⟨#[115, 105, 122, 101]⟩ 1 (some 45) := ⟨by decide +kernel, [115, 105, 122, 101, 49], 4, rfl, rfl, by decide, by decide, by decide +kernel, by intro f hf args w; cases hf; exact callFunc_enter Tryd.func45 (by kernel_rfl) rfl args w⟩
/-- a tuple of numbers -/
def tupT (l : List Int) : T := .mk 5 0 ⟨#[]⟩ (l.map tN) [] []
theorem num_chk2 (d : Nat) (n : Int) (p b : Nat) (hp : p + 1 + b ≤ 65536) (hd : d ≤ 200) : chk d (tN n) p b = ((p + 1, b), none) := by
  have h0 : chk0 d (tN n) p b = none := by
    unfold chk0
    have ha : addB (tN n) = 0 := rfl
    have hf : flds (tN n) = true := rfl
    rw [if_neg (by rw [ha]; omega), if_neg (by rw [hf]; simp)]
  rw [chk_eq, h0]
  rfl
theorem nums_chkL (d : Nat) (hd : d ≤ 200) : ∀ (l : List Int) (p : Nat), p + l.length ≤ 65536 → chkL d (l.map tN) p 0 = ((p + l.length, 0), none)
  | [], p, _ => rfl
  | i :: l, p, hp => by
    rw [List.length_cons] at hp
    rw [List.map_cons, chkL, num_chk2 d _ p 0 (by omega) hd]
    show chkL d (l.map tN) (p + 1) 0 = _
    rw [nums_chkL d hd l (p + 1) (by omega), List.length_cons]
    congr 2
    omega
theorem tup_right (l : List Int) (h : l.length ≤ 60000) : rightOf (tupT l) = none := by
  unfold rightOf
  have hc : chk0 1 (tupT l) 0 0 = none := by
    unfold chk0
    have ha : addB (tupT l) = 0 := rfl
    have hf : flds (tupT l) = true := rfl
    rw [if_neg (by rw [ha]; omega), if_neg (by rw [hf]; simp)]
  rw [chk_eq, hc]
  show (match chkL 2 (l.map tN) 1 0 with | (s, some e) => (s, some e) | (s, none) => chkL 2 [] s.1 s.2).2 = none
  rw [nums_chkL 2 (by omega) l 1 (by omega)]
  rfl
theorem tup_ok (l : List Int) (h : l.length ≤ 60000) (hf : ∀ x ∈ l, fits x) : TOk (tupT l) := by
  unfold tupT TOk
  refine ⟨by unfold fits; omega, by unfold fits; omega, by decide, by rw [List.length_map]; omega, by decide, by decide, by simp, LOk.of ?_, by simp [LOk]⟩
  intro t ht
  obtain ⟨i, hi, rfl⟩ := List.mem_map.1 ht
  exact (num_N (hf i hi)).2.1
section
variable {W w : World} {L : List HP} {h : Nat → Option Obj} {b : Nat} {a0 a1 a2 a3 a4 a5 b0 b1 b2 b3 b4 b5 c0 c1 c2 c3 c4 c5 : Value}
theorem do_element (q : TabS h) (S : Sat W w (blk b (.cells #[a0, a1, a2, a3, a4, a5, b0, b1, b2, b3, b4, b5] 35 (0, 0)) :: arch h :: L)) (i : Int) (l : List Int) (q1 : TIn h (tN i) [a0, a1, a2, a3, a4, a5]) (q2 : TIn h (tupT l) [b0, b1, b2, b3, b4, b5]) (fi : fits i) (hl : l.length ≤ 60000) (hf : ∀ x ∈ l, fits x) :
    Calls Tryd.prog 23 #[.string ⟨#[101, 108, 101, 109, 101, 110, 116]⟩, .slice (some ⟨b, 0, none⟩) 2 2] w (DoL W L h (elemO i (l.map tN))) := by
  refine lawdo2 q S fnk_element _ _ q1 q2 (num_N fi).2.1 (tup_ok l hl hf) (num_N fi).2.2 (tup_right l hl) _ ?_ (fun w h' L cb l1 s c => element_m s i (tupT l) c (tup_ok l hl hf) rfl)
  intro t ht
  unfold elemO at ht
  split at ht
  · have hm := List.mem_of_getElem? ht
    obtain ⟨x, hx, rfl⟩ := List.mem_map.1 hm
    exact (num_N (hf x hx)).2
  · cases ht
theorem do_setelement (q : TabS h) (S : Sat W w (blk b (.cells #[a0, a1, a2, a3, a4, a5, b0, b1, b2, b3, b4, b5, c0, c1, c2, c3, c4, c5] 35 (0, 0)) :: arch h :: L)) (i v : Int) (l : List Int) (q1 : TIn h (tN i) [a0, a1, a2, a3, a4, a5]) (q2 : TIn h (tupT l) [b0, b1, b2, b3, b4, b5]) (q3 : TIn h (tN v) [c0, c1, c2, c3, c4, c5]) (fi : fits i) (fv : fits v) (hl : l.length ≤ 60000) (hf : ∀ x ∈ l, fits x) :
    Calls Tryd.prog 23 #[.string ⟨#[115, 101, 116, 101, 108, 101, 109, 101, 110, 116]⟩, .slice (some ⟨b, 0, none⟩) 3 3] w (DoL W L h (setO i (tupT l) (tN v))) := by
  obtain ⟨h1, l1, r1', s1⟩ := store_cells (cs := [a0, a1, a2, a3, a4, a5] ++ [b0, b1, b2, b3, b4, b5] ++ [c0, c1, c2, c3, c4, c5]) S
  have hla : LIn h1 [tN i, tupT l, tN v] (some ⟨b, 0, none⟩) 0 := LIn.of_rd (vss := [[a0, a1, a2, a3, a4, a5], [b0, b1, b2, b3, b4, b5], [c0, c1, c2, c3, c4, c5]]) (by simp only [TsIn]; exact ⟨_, _, rfl, q1.mono l1, _, _, rfl, q2.mono l1, _, _, rfl, q3.mono l1, rfl⟩) (by simpa using r1')
  have hokk : ∀ t ∈ [tN i, tupT l, tN v], TOk t := by
    intro x hx; simp only [List.mem_cons, List.not_mem_nil, or_false] at hx; rcases hx with rfl | rfl | rfl
    · exact (num_N fi).2.1
    · exact tup_ok l hl hf
    · exact (num_N fv).2.1
  have hrtt : ∀ t ∈ [tN i, tupT l, tN v], rightOf t = none := by
    intro x hx; simp only [List.mem_cons, List.not_mem_nil, or_false] at hx; rcases hx with rfl | rfl | rfl
    · exact (num_N fi).2.2
    · exact tup_right l hl
    · exact (num_N fv).2.2
  refine (lawdo_of (q.mono l1) s1 fnk_setelement [tN i, tupT l, tN v] _ 3 hla rfl hokk hrtt _ (fun w h' L a c l2 s c2 => ?_)).mono fun e w' x => x.le l1
  have F := fnk_setelement
  obtain ⟨_, lb, k, hk, hlb, hm, hm9, hfo, hcf⟩ := F
  refine (do_sep ((q.mono l1).mono l2) s 16 lb k hk hlb 3 hm hm9 [tN i, tupT l, tN v] a c c2 rfl hokk hrtt (some _) hfo (setO i (tupT l) (tN v)) ?_ hcf (fun w h' L cb A ca vss _ s => setElement_s i (tupT l) (tN v) s (tup_ok l hl hf) rfl)).mono fun e w' x => x.p
  intro t ht
  unfold setO at ht
  split at ht
  · cases ht
    have e : setT (i - 1).toNat (tupT l) (tN v) = tupT (l.set (i - 1).toNat v) := by
      unfold setT tupT
      simp only [T.k, T.n, T.nm, T.is, T.rs, T.bs, List.map_set]
    rw [e]
    have hl2 : (l.set (i - 1).toNat v).length ≤ 60000 := by rw [List.length_set]; exact hl
    refine ⟨tup_ok _ hl2 fun x hx => ?_, tup_right _ hl2⟩
    rcases List.mem_or_eq_of_mem_set hx with h | h
    · exact hf x h
    · subst h; exact fv
  · cases ht
theorem do_size (q : TabS h) (S : Sat W w (blk b (.cells #[a0, a1, a2, a3, a4, a5] 35 (0, 0)) :: arch h :: L)) (l : List Int) (q1 : TIn h (tupT l) [a0, a1, a2, a3, a4, a5]) (hl : l.length ≤ 60000) (hf : ∀ x ∈ l, fits x) :
    Calls Tryd.prog 23 #[.string ⟨#[115, 105, 122, 101]⟩, .slice (some ⟨b, 0, none⟩) 1 1] w (NumL W L h (l.length : Int)) := by
  refine (lawdo1 q S fnk_size _ q1 (tup_ok l hl hf) (tup_right l hl) (some (tN (l.length : Int))) (fun t e => by cases e; exact (num_N (by unfold fits; omega)).2) (fun w h' L cb l1 s c => ?_)).mono fun e w' x => x.num
  have hm := size_m s (tupT l) c (tup_ok l hl hf) rfl
  have e : (((tupT l).is.length : Int) + ((tupT l).bs.length : Int)) = (l.length : Int) := by simp [tupT, T.is, T.bs]
  rw [e] at hm
  exact hm
end
#print axioms do_setelement
end Go.Proofs.YtlgogflhjpcmlaaDoor
