/-
  troupelaw08: num, do, awake. (Written by wip/gen/gen_bife.py.)
-/
import Derived.Test.YtlgogflhjpcmlaaDoorBifD
import Derived.Test.YtlgogflhjpcmlaaDoorTCopy
namespace Go.Proofs.YtlgogflhjpcmlaaDoor
open Go.RowKit
set_option maxHeartbeats 4000000
set_option maxRecDepth 100000

/-- a function: its number, its name, how many arguments it takes, what it does -/
def FnOk (i : Nat) (nm : ByteArray) (m : Nat) (fo : Option Nat) : Prop := numOf nm = i ∧ ∃ (l : List UInt8) (k : Nat) (hk : l.length = k + 1), nmL[i]? = some l ∧ ((l[k]'(by omega)).toNat : Int) = (m : Int) + 48 ∧ m ≤ 9 ∧
  (fnL.find? fun p => (⟨l.toArray⟩ : ByteArray).extract 0 k == p.1).map (·.2) = fo ∧ ∀ f, fo = some f → ∀ (args : Array Value) (w : World), (callFunc f args).run Tryd.prog w = .ok (.enter f args) w
/-- what the law's do answers -/
def DoL (W : World) (L : List HP) (h : Nat → Option Obj) (r : Option T) (e : Ending) (w' : World) : Prop :=
  ∃ vs h', e = .returned (.tuple #[.agg vs.toArray, .bool r.isSome]) ∧ Le h h' ∧ Sat W w' (arch h' :: L) ∧ TIn h' (r.getD tZ0) vs
theorem cells6 {W w : World} {L : List HP} {b t : Nat} {fr : Nat × Nat} {v0 v1 v2 v3 v4 v5 : Value} (s : Sat W w (blk b (.cells #[v0, v1, v2, v3, v4, v5] t fr) :: L)) :
    World.cell? w ⟨b, 0, none⟩ = some v0 ∧ World.cell? w ⟨b, 1, none⟩ = some v1 ∧ World.cell? w ⟨b, 2, none⟩ = some v2 ∧ World.cell? w ⟨b, 3, none⟩ = some v3 ∧ World.cell? w ⟨b, 4, none⟩ = some v4 ∧ World.cell? w ⟨b, 5, none⟩ = some v5 :=
  ⟨s.cell 0, s.cell 1, s.cell 2, s.cell 3, s.cell 4, s.cell 5⟩
theorem reason_two (n : Int) : reasonF n = ⟨#[98, 97, 100, 97, 114, 105, 116, 104]⟩ ∨ reasonF n = ⟨#[98, 97, 100, 97, 114, 103]⟩ := by
  unfold reasonF
  split
  · exact .inl rfl
  · exact .inr rfl
section
variable {W w : World} {L : List HP} {h : Nat → Option Obj}
theorem num8_any (S : Sat W w L) (x : Int) :
    Calls Tryd.prog 21 #[.int .i64 x] w fun e w' => e = .returned (.agg #[.int .i64 1, .int .i64 x, .string ⟨#[]⟩, .slice none 0 0, .slice none 0 0, .slice none 0 0]) ∧ Sat W w' L := by
  have S1 := hid (S.alloc' (.cells #[.int .i64 1, .int .i64 x, .string ⟨#[]⟩, .slice none 0 0, .slice none 0 0, .slice none 0 0] 35))
  clear S
  go_enter Tryd.func21, Tryd.ntmps21
  go_wp2_with fail
  refine bodyPost_ret (v := .agg #[.int .i64 1, .int .i64 x, .string ⟨#[]⟩, .slice none 0 0, .slice none 0 0, .slice none 0 0]) (by simp [results, Tryd.results21, go_sem]) rfl ⟨rfl, S1.out⟩
theorem store_cells {b t : Nat} {cs : List Value} (s : Sat W w (blk b (.cells cs.toArray t (0, 0)) :: arch h :: L)) : ∃ h', Le h h' ∧ RdIn h' (some ⟨b, 0, none⟩) cs ∧ Sat W w (arch h' :: L) := by
  obtain ⟨h', l, g, s'⟩ := s.store
  refine ⟨h', l, fun j u hj => ⟨b, 0, rfl, ?_⟩, s'⟩
  unfold cellIn
  rw [g]
  simpa using hj
theorem lawdo_any (q : TabS h) (S : Sat W w (arch h :: L)) {i m : Nat} {nm : ByteArray} {fo : Option Nat} (F : FnOk i nm m fo) (ts : List T) (a : Option Addr) (c : Nat) (hla : LIn h ts a 0) (hn : ts.length = m) (hok : ∀ t ∈ ts, TOk t) (hrt : ∀ t ∈ ts, rightOf t = none)
    (r : Option T) (hr : ∀ t, r = some t → TOk t ∧ rightOf t = none)
    (hmeth : ∀ (w : World) (h' : Nat → Option Obj) (L : List HP) (cb : Nat), Le h h' → Sat W w (arch h' :: L) → CArg h' cb i ts → Calls Tryd.prog (fo.getD 31) #[.pointer (some ⟨cb, 0, none⟩)] w (MethP W L h' r)) :
    Calls Tryd.prog 23 #[.string nm, .slice a m c] w (DoL W L h r) := by
  obtain ⟨hnum, l, k, hk, hl, hm, hm9, hfo, hcf⟩ := F
  have S1 := hid (S.allocAt (k := w.heap.size) (.cells #[.int .i64 0, .int .i64 0, .string ⟨#[]⟩, .slice none 0 0, .slice none 0 0, .slice none 0 0] 35) rfl).swap
  have HN := hid (number_any q S1.out nm)
  rw [hnum] at HN
  have HCP : Hid (∀ (w : World) (L : List HP), Sat W w (arch h :: L) → Calls Tryd.prog 17 #[.slice a m c] w fun e w' => ∃ a' c' vss h', e = .returned (.slice a' m c') ∧ Le h h' ∧ TsIn h' ts vss ∧ Sat W w' (row 35 6 a' m c' vss.flatten :: arch h' :: L)) := hid (fun w L s => copyAll_of s ts a m c hn.symm hla (by omega) (fun t ht => copy_t t (hok t ht)))
  have HDO : Hid (∀ (w : World) (h' : Nat → Option Obj) (L : List HP) (a : Option Addr) (c : Nat), Le h h' → Sat W w (arch h' :: L) → LIn h' ts a 0 → Calls Tryd.prog 18 #[.int .i64 i, .slice a m c] w (DoP W L h' i r)) :=
    hid (fun w h' L a c l1 s q1 => do_any (q.mono l1) s i l k hk hl m hm hm9 ts a c q1 hn hok hrt fo hfo r hr hcf (fun w h2 L cb l2 s2 q2 => hmeth w h2 L cb (l1.trans l2) s2 q2))
  clear S q hnum hk hl hm hfo hcf hla hok hrt hr hmeth hn
  go_enter Tryd.func23, Tryd.ntmps23
  go_wp2_with fail
  refine HN.out.mono ?_
  rintro e w1 ⟨rfl, s1⟩
  have HC2 := hid (HCP.out w1 _ s1)
  clear s1 HN HCP S1
  go_wp2_with fail
  refine HC2.out.mono ?_
  rintro e w2 ⟨a', c', vss, h1, rfl, l1, q1, s2⟩
  obtain ⟨h2, l2, r2, s3⟩ := store_row s2
  have HD2 := hid (HDO.out w2 h2 _ a' c' (l1.trans l2) s3 (LIn.of_rd (q1.mono l2) r2))
  have LE2 := hid (l1.trans l2)
  clear HC2 HDO l1 q1 s2 l2 r2 s3
  go_wp2_with fail
  refine HD2.out.mono ?_
  rintro e w3 ⟨t, vs, h3, why, rfl, l3, s3, q3, hs, hn⟩
  obtain ⟨ia, ic, ra, rc, ba, bc, rfl, _⟩ := id q3.vals
  unfold tVals
  have HQ := hid q3
  have HLE := hid (LE2.out.trans l3)
  unfold tVals at HQ
  obtain ⟨tb, HTB⟩ : ∃ tb, Hid (w3.heap.size = tb) := ⟨_, hid rfl⟩
  have S3 := hid (s3.allocAt (k := w3.heap.size) (.cells #[.int .i64 t.k, .int .i64 t.n, .string t.nm, .slice ia t.is.length ic, .slice ra t.rs.length rc, .slice ba t.bs.length bc] 35) rfl).swap
  rw [HTB.out] at S3
  clear s3 q3 l3 HD2 LE2
  have z0 : World.cell? _ ⟨w.heap.size, 0, none⟩ = some (.int .i64 0) := S3.out.rot3.cell 0
  have f0 := S3.out.rot3.free 0
  have z1 : World.cell? _ ⟨w.heap.size, 1, none⟩ = some (.int .i64 0) := S3.out.rot3.cell 1
  have f1 := S3.out.rot3.free 1
  have z2 : World.cell? _ ⟨w.heap.size, 2, none⟩ = some (.string ⟨#[]⟩) := S3.out.rot3.cell 2
  have f2 := S3.out.rot3.free 2
  have z3 : World.cell? _ ⟨w.heap.size, 3, none⟩ = some (.slice none 0 0) := S3.out.rot3.cell 3
  have f3 := S3.out.rot3.free 3
  have z4 : World.cell? _ ⟨w.heap.size, 4, none⟩ = some (.slice none 0 0) := S3.out.rot3.cell 4
  have f4 := S3.out.rot3.free 4
  have z5 : World.cell? _ ⟨w.heap.size, 5, none⟩ = some (.slice none 0 0) := S3.out.rot3.cell 5
  have f5 := S3.out.rot3.free 5
  have hSw := cells6 S3.out.drew.swap
  rcases (show (∃ u, r = some u ∧ why = ⟨#[]⟩) ∨ (r = none ∧ (why = ⟨#[98, 97, 100, 97, 114, 105, 116, 104]⟩ ∨ why = ⟨#[98, 97, 100, 97, 114, 103]⟩)) by
    cases r with
    | none => exact .inr ⟨rfl, by rw [(hn rfl).2]; exact reason_two i⟩
    | some u => exact .inl ⟨u, rfl, (hs u rfl).2⟩) with ⟨u, rfl, rfl⟩ | ⟨rfl, rfl | rfl⟩
  · obtain rfl := (hs u rfl).1
    clear hs hn
    go_wp2_with fail
    rw [HTB.out]
    refine wp_region_noPanic ?_
    refine wp_region_L (S := fun w' => World.cell? w' ⟨tb, 0, none⟩ = some (.int .i64 t.k) ∧ World.cell? w' ⟨tb, 1, none⟩ = some (.int .i64 t.n) ∧ World.cell? w' ⟨tb, 2, none⟩ = some (.string t.nm) ∧ World.cell? w' ⟨tb, 3, none⟩ = some (.slice ia t.is.length ic) ∧ World.cell? w' ⟨tb, 4, none⟩ = some (.slice ra t.rs.length rc) ∧ World.cell? w' ⟨tb, 5, none⟩ = some (.slice ba t.bs.length bc)) 7 (by kernel_rfl) ?_
    refine wpAnyL_pure (i := 1) (d := 19) (v := ?_) rfl (by kernel_rfl) (by kernel_rfl) (by kernel_rfl) (by kernel_rfl) (by decide) (fun _ _ _ h => h) (Or.inl ⟨by rfl, ?_⟩) (fun _ => hSw) ?_
    rotate_left
    · intro w _; go_simp; all_goals with_reducible rfl
    try simp only [Act.put, List.setIfInBounds_toArray, List.set_cons_zero, List.set_cons_succ]
    refine wpAnyL_pure (i := 2) (d := 20) (v := ?_) rfl (by kernel_rfl) (by kernel_rfl) (by kernel_rfl) (by kernel_rfl) (by decide) (fun _ _ _ h => h) (Or.inl ⟨by rfl, ?_⟩) (fun _ => hSw) ?_
    rotate_left
    · intro w _; go_simp; all_goals with_reducible rfl
    try simp only [Act.put, List.setIfInBounds_toArray, List.set_cons_zero, List.set_cons_succ]
    refine wpAnyL_pure (i := 3) (d := 21) (v := ?_) rfl (by kernel_rfl) (by kernel_rfl) (by kernel_rfl) (by kernel_rfl) (by decide) (fun _ _ _ h => h) (Or.inl ⟨by rfl, ?_⟩) (fun _ => hSw) ?_
    rotate_left
    · intro w _; go_simp; all_goals with_reducible rfl
    try simp only [Act.put, List.setIfInBounds_toArray, List.set_cons_zero, List.set_cons_succ]
    refine wpAnyL_pure (i := 4) (d := 22) (v := ?_) rfl (by kernel_rfl) (by kernel_rfl) (by kernel_rfl) (by kernel_rfl) (by decide) (fun _ _ _ h => h) (Or.inl ⟨by rfl, ?_⟩) (fun _ => hSw) ?_
    rotate_left
    · intro w _; go_simp; all_goals with_reducible rfl
    try simp only [Act.put, List.setIfInBounds_toArray, List.set_cons_zero, List.set_cons_succ]
    refine wpAnyL_pure (i := 5) (d := 23) (v := ?_) rfl (by kernel_rfl) (by kernel_rfl) (by kernel_rfl) (by kernel_rfl) (by decide) (fun _ _ _ h => h) (Or.inl ⟨by rfl, ?_⟩) (fun _ => hSw) ?_
    rotate_left
    · intro w _; go_simp; all_goals with_reducible rfl
    try simp only [Act.put, List.setIfInBounds_toArray, List.set_cons_zero, List.set_cons_succ]
    refine wpAnyL_pure (i := 6) (d := 24) (v := ?_) rfl (by kernel_rfl) (by kernel_rfl) (by kernel_rfl) (by kernel_rfl) (by decide) (fun _ _ _ h => h) (Or.inl ⟨by rfl, ?_⟩) (fun _ => hSw) ?_
    rotate_left
    · intro w _; go_simp; all_goals with_reducible rfl
    try simp only [Act.put, List.setIfInBounds_toArray, List.set_cons_zero, List.set_cons_succ]
    refine wpAnyL_load (i := 0) (d := 18) (v := ?_) rfl (by kernel_rfl) (by kernel_rfl) (by kernel_rfl) (by kernel_rfl) (by decide) (by kernel_rfl) (by kernel_rfl) (fun _ _ _ h => h) (Or.inl ⟨by rfl, ?_⟩) hSw ?_
    rotate_left
    · intro w hSw; (try dsimp only at hSw); go_simp; all_goals with_reducible rfl
    try simp only [Act.put, List.setIfInBounds_toArray, List.set_cons_zero, List.set_cons_succ]
    refine wpAnyL_ready (rs := [7]) (by kernel_rfl) (by simp) ?_
    refine AllL.cons (o := _) rfl (fun K hK => ?_) AllL.nil
    go_simp
    refine hK.out _ _ (fun hv => absurd hv (by decide +kernel)) ?_
    clear hK K
    try simp only [Act.put, List.setIfInBounds_toArray, List.set_cons_zero, List.set_cons_succ]
    refine wpAnyL_ready (rs := [8]) (by kernel_rfl) (by simp) ?_
    refine AllL.cons (o := _) rfl (fun K hK => ?_) AllL.nil
    go_simp
    refine hK.out _ _ (fun hv => absurd hv (by decide +kernel)) ?_
    clear hK K
    try simp only [Act.put, List.setIfInBounds_toArray, List.set_cons_zero, List.set_cons_succ]
    refine wpAnyL_done (by kernel_rfl) ?_ _
    refine NoPanic.normal ?_
    go_wp2_with fail
    have s8 := ((((((S3.out.rot3.set 0 (.int .i64 t.k)).set 1 (.int .i64 t.n)).set 2 (.string t.nm)).set 3 (.slice ia t.is.length ic)).set 4 (.slice ra t.rs.length rc)).set 5 (.slice ba t.bs.length bc)).drop.swap.drop.drew
    refine bodyPost_ret (v := .tuple #[.agg #[.int .i64 t.k, .int .i64 t.n, .string t.nm, .slice ia t.is.length ic, .slice ra t.rs.length rc, .slice ba t.bs.length bc], .bool true]) (by simp [results, Tryd.results23, go_sem, z0, z1, z2, z3, z4, z5]) rfl ?_
    exact ⟨_, h3, rfl, HLE.out, s8, HQ.out⟩
  · obtain rfl := (hn rfl).1
    clear hs hn
    go_wp2_with fail
    rw [HTB.out]
    refine wp_region_noPanic ?_
    refine wp_region_L (S := fun w' => World.cell? w' ⟨tb, 0, none⟩ = some (.int .i64 tZ0.k) ∧ World.cell? w' ⟨tb, 1, none⟩ = some (.int .i64 tZ0.n) ∧ World.cell? w' ⟨tb, 2, none⟩ = some (.string tZ0.nm) ∧ World.cell? w' ⟨tb, 3, none⟩ = some (.slice ia tZ0.is.length ic) ∧ World.cell? w' ⟨tb, 4, none⟩ = some (.slice ra tZ0.rs.length rc) ∧ World.cell? w' ⟨tb, 5, none⟩ = some (.slice ba tZ0.bs.length bc)) 7 (by kernel_rfl) ?_
    refine wpAnyL_pure (i := 1) (d := 19) (v := ?_) rfl (by kernel_rfl) (by kernel_rfl) (by kernel_rfl) (by kernel_rfl) (by decide) (fun _ _ _ h => h) (Or.inl ⟨by rfl, ?_⟩) (fun _ => hSw) ?_
    rotate_left
    · intro w _; go_simp; all_goals with_reducible rfl
    try simp only [Act.put, List.setIfInBounds_toArray, List.set_cons_zero, List.set_cons_succ]
    refine wpAnyL_pure (i := 2) (d := 20) (v := ?_) rfl (by kernel_rfl) (by kernel_rfl) (by kernel_rfl) (by kernel_rfl) (by decide) (fun _ _ _ h => h) (Or.inl ⟨by rfl, ?_⟩) (fun _ => hSw) ?_
    rotate_left
    · intro w _; go_simp; all_goals with_reducible rfl
    try simp only [Act.put, List.setIfInBounds_toArray, List.set_cons_zero, List.set_cons_succ]
    refine wpAnyL_pure (i := 3) (d := 21) (v := ?_) rfl (by kernel_rfl) (by kernel_rfl) (by kernel_rfl) (by kernel_rfl) (by decide) (fun _ _ _ h => h) (Or.inl ⟨by rfl, ?_⟩) (fun _ => hSw) ?_
    rotate_left
    · intro w _; go_simp; all_goals with_reducible rfl
    try simp only [Act.put, List.setIfInBounds_toArray, List.set_cons_zero, List.set_cons_succ]
    refine wpAnyL_pure (i := 4) (d := 22) (v := undef) rfl (by kernel_rfl) (by kernel_rfl) (by kernel_rfl) (by kernel_rfl) (by decide) (fun _ _ _ h => h) (Or.inr ⟨by rfl, rfl⟩) (fun _ => hSw) ?_
    try simp only [Act.put, List.setIfInBounds_toArray, List.set_cons_zero, List.set_cons_succ]
    refine wpAnyL_pure (i := 5) (d := 23) (v := undef) rfl (by kernel_rfl) (by kernel_rfl) (by kernel_rfl) (by kernel_rfl) (by decide) (fun _ _ _ h => h) (Or.inr ⟨by rfl, rfl⟩) (fun _ => hSw) ?_
    try simp only [Act.put, List.setIfInBounds_toArray, List.set_cons_zero, List.set_cons_succ]
    refine wpAnyL_pure (i := 6) (d := 24) (v := ?_) rfl (by kernel_rfl) (by kernel_rfl) (by kernel_rfl) (by kernel_rfl) (by decide) (fun _ _ _ h => h) (Or.inl ⟨by rfl, ?_⟩) (fun _ => hSw) ?_
    rotate_left
    · intro w _; go_simp; all_goals with_reducible rfl
    try simp only [Act.put, List.setIfInBounds_toArray, List.set_cons_zero, List.set_cons_succ]
    refine wpAnyL_load (i := 0) (d := 18) (v := ?_) rfl (by kernel_rfl) (by kernel_rfl) (by kernel_rfl) (by kernel_rfl) (by decide) (by kernel_rfl) (by kernel_rfl) (fun _ _ _ h => h) (Or.inl ⟨by rfl, ?_⟩) hSw ?_
    rotate_left
    · intro w hSw; (try dsimp only at hSw); go_simp; all_goals with_reducible rfl
    try simp only [Act.put, List.setIfInBounds_toArray, List.set_cons_zero, List.set_cons_succ]
    refine wpAnyL_ready (rs := [7]) (by kernel_rfl) (by simp) ?_
    refine AllL.cons (o := _) rfl (fun K hK => ?_) AllL.nil
    go_simp
    refine hK.out _ _ (fun hv => absurd hv (by decide +kernel)) ?_
    clear hK K
    try simp only [Act.put, List.setIfInBounds_toArray, List.set_cons_zero, List.set_cons_succ]
    refine wpAnyL_ready (rs := [8]) (by kernel_rfl) (by simp) ?_
    refine AllL.cons (o := _) rfl (fun K hK => ?_) AllL.nil
    go_simp
    refine hK.out _ _ (fun hv => absurd hv (by decide +kernel)) ?_
    clear hK K
    try simp only [Act.put, List.setIfInBounds_toArray, List.set_cons_zero, List.set_cons_succ]
    refine wpAnyL_done (by kernel_rfl) ?_ _
    refine NoPanic.normal ?_
    go_wp2_with fail
    have s8 := ((((((S3.out.rot3.set 0 (.int .i64 tZ0.k)).set 1 (.int .i64 tZ0.n)).set 2 (.string tZ0.nm)).set 3 (.slice ia tZ0.is.length ic)).set 4 (.slice ra tZ0.rs.length rc)).set 5 (.slice ba tZ0.bs.length bc)).drop.swap.drop.drew
    refine bodyPost_ret (v := .tuple #[.agg #[.int .i64 tZ0.k, .int .i64 tZ0.n, .string tZ0.nm, .slice ia tZ0.is.length ic, .slice ra tZ0.rs.length rc, .slice ba tZ0.bs.length bc], .bool false]) (by simp [results, Tryd.results23, go_sem, z0, z1, z2, z3, z4, z5]) rfl ?_
    exact ⟨_, h3, rfl, HLE.out, s8, HQ.out⟩
  · obtain rfl := (hn rfl).1
    clear hs hn
    go_wp2_with fail
    rw [HTB.out]
    refine wp_region_noPanic ?_
    refine wp_region_L (S := fun w' => World.cell? w' ⟨tb, 0, none⟩ = some (.int .i64 tZ0.k) ∧ World.cell? w' ⟨tb, 1, none⟩ = some (.int .i64 tZ0.n) ∧ World.cell? w' ⟨tb, 2, none⟩ = some (.string tZ0.nm) ∧ World.cell? w' ⟨tb, 3, none⟩ = some (.slice ia tZ0.is.length ic) ∧ World.cell? w' ⟨tb, 4, none⟩ = some (.slice ra tZ0.rs.length rc) ∧ World.cell? w' ⟨tb, 5, none⟩ = some (.slice ba tZ0.bs.length bc)) 7 (by kernel_rfl) ?_
    refine wpAnyL_pure (i := 1) (d := 19) (v := ?_) rfl (by kernel_rfl) (by kernel_rfl) (by kernel_rfl) (by kernel_rfl) (by decide) (fun _ _ _ h => h) (Or.inl ⟨by rfl, ?_⟩) (fun _ => hSw) ?_
    rotate_left
    · intro w _; go_simp; all_goals with_reducible rfl
    try simp only [Act.put, List.setIfInBounds_toArray, List.set_cons_zero, List.set_cons_succ]
    refine wpAnyL_pure (i := 2) (d := 20) (v := ?_) rfl (by kernel_rfl) (by kernel_rfl) (by kernel_rfl) (by kernel_rfl) (by decide) (fun _ _ _ h => h) (Or.inl ⟨by rfl, ?_⟩) (fun _ => hSw) ?_
    rotate_left
    · intro w _; go_simp; all_goals with_reducible rfl
    try simp only [Act.put, List.setIfInBounds_toArray, List.set_cons_zero, List.set_cons_succ]
    refine wpAnyL_pure (i := 3) (d := 21) (v := ?_) rfl (by kernel_rfl) (by kernel_rfl) (by kernel_rfl) (by kernel_rfl) (by decide) (fun _ _ _ h => h) (Or.inl ⟨by rfl, ?_⟩) (fun _ => hSw) ?_
    rotate_left
    · intro w _; go_simp; all_goals with_reducible rfl
    try simp only [Act.put, List.setIfInBounds_toArray, List.set_cons_zero, List.set_cons_succ]
    refine wpAnyL_pure (i := 4) (d := 22) (v := undef) rfl (by kernel_rfl) (by kernel_rfl) (by kernel_rfl) (by kernel_rfl) (by decide) (fun _ _ _ h => h) (Or.inr ⟨by rfl, rfl⟩) (fun _ => hSw) ?_
    try simp only [Act.put, List.setIfInBounds_toArray, List.set_cons_zero, List.set_cons_succ]
    refine wpAnyL_pure (i := 5) (d := 23) (v := undef) rfl (by kernel_rfl) (by kernel_rfl) (by kernel_rfl) (by kernel_rfl) (by decide) (fun _ _ _ h => h) (Or.inr ⟨by rfl, rfl⟩) (fun _ => hSw) ?_
    try simp only [Act.put, List.setIfInBounds_toArray, List.set_cons_zero, List.set_cons_succ]
    refine wpAnyL_pure (i := 6) (d := 24) (v := ?_) rfl (by kernel_rfl) (by kernel_rfl) (by kernel_rfl) (by kernel_rfl) (by decide) (fun _ _ _ h => h) (Or.inl ⟨by rfl, ?_⟩) (fun _ => hSw) ?_
    rotate_left
    · intro w _; go_simp; all_goals with_reducible rfl
    try simp only [Act.put, List.setIfInBounds_toArray, List.set_cons_zero, List.set_cons_succ]
    refine wpAnyL_load (i := 0) (d := 18) (v := ?_) rfl (by kernel_rfl) (by kernel_rfl) (by kernel_rfl) (by kernel_rfl) (by decide) (by kernel_rfl) (by kernel_rfl) (fun _ _ _ h => h) (Or.inl ⟨by rfl, ?_⟩) hSw ?_
    rotate_left
    · intro w hSw; (try dsimp only at hSw); go_simp; all_goals with_reducible rfl
    try simp only [Act.put, List.setIfInBounds_toArray, List.set_cons_zero, List.set_cons_succ]
    refine wpAnyL_ready (rs := [7]) (by kernel_rfl) (by simp) ?_
    refine AllL.cons (o := _) rfl (fun K hK => ?_) AllL.nil
    go_simp
    refine hK.out _ _ (fun hv => absurd hv (by decide +kernel)) ?_
    clear hK K
    try simp only [Act.put, List.setIfInBounds_toArray, List.set_cons_zero, List.set_cons_succ]
    refine wpAnyL_ready (rs := [8]) (by kernel_rfl) (by simp) ?_
    refine AllL.cons (o := _) rfl (fun K hK => ?_) AllL.nil
    go_simp
    refine hK.out _ _ (fun hv => absurd hv (by decide +kernel)) ?_
    clear hK K
    try simp only [Act.put, List.setIfInBounds_toArray, List.set_cons_zero, List.set_cons_succ]
    refine wpAnyL_done (by kernel_rfl) ?_ _
    refine NoPanic.normal ?_
    go_wp2_with fail
    have s8 := ((((((S3.out.rot3.set 0 (.int .i64 tZ0.k)).set 1 (.int .i64 tZ0.n)).set 2 (.string tZ0.nm)).set 3 (.slice ia tZ0.is.length ic)).set 4 (.slice ra tZ0.rs.length rc)).set 5 (.slice ba tZ0.bs.length bc)).drop.swap.drop.drew
    refine bodyPost_ret (v := .tuple #[.agg #[.int .i64 tZ0.k, .int .i64 tZ0.n, .string tZ0.nm, .slice ia tZ0.is.length ic, .slice ra tZ0.rs.length rc, .slice ba tZ0.bs.length bc], .bool false]) (by simp [results, Tryd.results23, go_sem, z0, z1, z2, z3, z4, z5]) rfl ?_
    exact ⟨_, h3, rfl, HLE.out, s8, HQ.out⟩
end
end Go.Proofs.YtlgogflhjpcmlaaDoor
