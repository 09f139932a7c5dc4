/-
  bif: Do, and the law's do, of one term that may not be. (Written by wip/gen/gen_bifq.py.)
-/
import Derived.Test.YtlgogflhjpcmlaaDoorBifK
namespace Go.Proofs.YtlgogflhjpcmlaaDoor
open Go.RowKit
set_option maxHeartbeats 4000000
set_option maxRecDepth 100000
section
variable {W w : World} {L : List HP} {h : Nat → Option Obj}
/-- one term that may not be: an error -/
def ErrD (W : World) (L : List HP) (h : Nat → Option Obj) (e : Ending) (w' : World) : Prop :=
  ∃ ty x h', e = .returned (.tuple #[.agg #[.int .i64 0, .int .i64 0, .string ⟨#[]⟩, .slice none 0 0, .slice none 0 0, .slice none 0 0], .string ⟨#[]⟩, .iface ty x]) ∧ Le h h' ∧ Sat W w' (arch h' :: L)
theorem do_err1 (qS : TabS h) (S : Sat W w (arch h :: L)) (i : Nat) (l : List UInt8) (k : Nat) (hk : l.length = k + 1) (hl : nmL[i]? = some l) (hm : ((l[k]'(by omega)).toNat : Int) = 1 + 48)
    (x : T) (a : Option Addr) (c : Nat) (hla : LIn h [x] a 0) (hok : TOk x) {nk : Nat × Int} (hrt : rightOf x = some nk) :
    Calls Tryd.prog 18 #[.int .i64 i, .slice a 1 c] w (ErrD W L h) := by
  have S1 := hid (S.allocAt (k := w.heap.size) (.cells #[.int .i64 0, .int .i64 0, .string ⟨#[]⟩, .slice none 0 0, .slice none 0 0, .slice none 0 0] 35) rfl).swap
  have HN := hid (name_ok qS S1.out i l k hk hl 1 hm (by omega))
  have HL := hid hla
  have HOK := hid hok
  obtain ⟨n1, k1'⟩ := nk
  have HRT := hid hrt
  clear S qS hk hl hm hla hok hrt S1
  go_enter Tryd.func18, Tryd.ntmps18
  go_wp2_with fail
  refine HN.out.mono ?_
  rintro e w1 ⟨rfl, s1⟩
  have S2 := hid (s1.alloc' (.cells #[.int .i64 i, .slice none 0 0] 63))
  obtain ⟨cb, HCB⟩ : ∃ cb, Hid (w1.heap.size = cb) := ⟨_, hid rfl⟩
  clear s1 HN
  go_wp2_with fail
  rw [HCB.out]
  go_loopw [39] (fun iv wr => iv = .int .i64 0 ∧ Hid (Sat W wr (arch h :: blk w.heap.size (.cells #[.int .i64 0, .int .i64 0, .string ⟨#[]⟩, .slice none 0 0, .slice none 0 0, .slice none 0 0] 35 (0, 0)) :: L))) (fun iv _ => 1 - (intOf iv).toNat)
  case atStart => exact ⟨rfl, S2⟩
  case round =>
    obtain ⟨rfl, S⟩ := hrel
    clear S2
    obtain ⟨g, off, vs, rfl, hc, hin⟩ := HL.out.get (j := 0) (t := x) rfl
    obtain ⟨ia, ic, ra, rc, ba, bc, rfl, _⟩ := id hin.vals
    have k0 : World.cell? wr ⟨g, off, none⟩ = some (.int .i64 x.k) := cell_at S.out hc 0 rfl (by omega)
    have k1 : World.cell? wr ⟨g, off + 1, none⟩ = some (.int .i64 x.n) := cell_at S.out hc 1 rfl (by omega)
    have k2 : World.cell? wr ⟨g, off + 2, none⟩ = some (.string x.nm) := cell_at S.out hc 2 rfl (by omega)
    have k3 : World.cell? wr ⟨g, off + 3, none⟩ = some (.slice ia x.is.length ic) := cell_at S.out hc 3 rfl (by omega)
    have k4 : World.cell? wr ⟨g, off + 4, none⟩ = some (.slice ra x.rs.length rc) := cell_at S.out hc 4 rfl (by omega)
    have k5 : World.cell? wr ⟨g, off + 5, none⟩ = some (.slice ba x.bs.length bc) := cell_at S.out hc 5 rfl (by omega)
    have S3 := hid (S.out.alloc' (.cells #[.int .i64 x.k, .int .i64 x.n, .string x.nm, .slice ia x.is.length ic, .slice ra x.rs.length rc, .slice ba x.bs.length bc] 35))
    have HRI := hid (right_lit S3.out x hin HOK.out)
    rw [HRT.out] at HRI
    clear hc hin S
    go_wp2_with fail
    refine HRI.out.mono ?_
    rintro e w2 ⟨v2, h2, rfl, l2, e2, s2⟩
    have e2 : ErrIn h2 v2 [(tTerm, n1)] k1' := e2
    have HAT := hid (at_some s2 ⟨#[98, 105, 102]⟩ (i : Int) e2)
    obtain ⟨ty, y, rfl⟩ := e2.iface
    have HLE2 := hid l2
    clear HRI k0 k1 k2 k3 k4 k5 S3 l2 e2 s2
    go_wp2_with fail
    refine HAT.out.mono ?_
    rintro e w3 ⟨v3, h3, rfl, l3, e3, s3⟩
    obtain ⟨ty3, y3, rfl⟩ := e3.iface
    have HLE3 := hid (HLE2.out.trans l3)
    have S4 := hid s3.swap
    clear l3 e3 s3 HAT HLE2
    have z0 : World.cell? w3 ⟨w.heap.size, 0, none⟩ = some (.int .i64 0) := S4.out.cell 0
    have f0 := S4.out.free 0
    have z1 : World.cell? w3 ⟨w.heap.size, 1, none⟩ = some (.int .i64 0) := S4.out.cell 1
    have f1 := S4.out.free 1
    have z2 : World.cell? w3 ⟨w.heap.size, 2, none⟩ = some (.string ⟨#[]⟩) := S4.out.cell 2
    have f2 := S4.out.free 2
    have z3 : World.cell? w3 ⟨w.heap.size, 3, none⟩ = some (.slice none 0 0) := S4.out.cell 3
    have f3 := S4.out.free 3
    have z4 : World.cell? w3 ⟨w.heap.size, 4, none⟩ = some (.slice none 0 0) := S4.out.cell 4
    have f4 := S4.out.free 4
    have z5 : World.cell? w3 ⟨w.heap.size, 5, none⟩ = some (.slice none 0 0) := S4.out.cell 5
    have f5 := S4.out.free 5
    go_wp2_with fail
    have s8 := ((((((S4.out.set 0 (.int .i64 0)).set 1 (.int .i64 0)).set 2 (.string ⟨#[]⟩)).set 3 (.slice none 0 0)).set 4 (.slice none 0 0)).set 5 (.slice none 0 0)).drop
    refine bodyPost_ret (v := .tuple #[.agg #[.int .i64 0, .int .i64 0, .string ⟨#[]⟩, .slice none 0 0, .slice none 0 0, .slice none 0 0], .string ⟨#[]⟩, .iface ty3 y3]) (by simp [results, Tryd.results18, go_sem, z0, z1, z2, z3, z4, z5]) rfl ?_
    exact ⟨ty3, y3, h3, rfl, HLE3.out, s8⟩
theorem lawdo_err (q : TabS h) (S : Sat W w (arch h :: L)) {i : Nat} {nm : ByteArray} {fo : Option Nat} (F : FnOk i nm 1 fo) (x : T) (a : Option Addr) (c : Nat) (hla : LIn h [x] a 0) (hok : TOk x) {nk : Nat × Int} (hrt : rightOf x = some nk) :
    Calls Tryd.prog 23 #[.string nm, .slice a 1 c] w (BadL W L h) := by
  obtain ⟨hnum, l, k, hk, hl, hm, hm9, hfo, hcf⟩ := F
  have S1 := hid (S.allocAt (k := w.heap.size) (.cells #[.int .i64 0, .int .i64 0, .string ⟨#[]⟩, .slice none 0 0, .slice none 0 0, .slice none 0 0] 35) rfl).swap
  have HN := hid (number_any q S1.out nm)
  rw [hnum] at HN
  have HCP : Hid (∀ (w : World) (L : List HP), Sat W w (arch h :: L) → Calls Tryd.prog 17 #[.slice a 1 c] w fun e w' => ∃ a' c' vss h', e = .returned (.slice a' 1 c') ∧ Le h h' ∧ TsIn h' [x] vss ∧ Sat W w' (row 35 6 a' 1 c' vss.flatten :: arch h' :: L)) := hid (fun w L s => copyAll_of s [x] a 1 c rfl hla (by omega) (fun t ht => copy_t t (by simp only [List.mem_cons, List.not_mem_nil, or_false] at ht; subst ht; exact hok)))
  have HDO : Hid (∀ (w : World) (h' : Nat → Option Obj) (L : List HP) (a : Option Addr) (c : Nat), Le h h' → Sat W w (arch h' :: L) → LIn h' [x] a 0 → Calls Tryd.prog 18 #[.int .i64 i, .slice a 1 c] w (ErrD W L h')) :=
    hid (fun w h' L a c l1 s q1 => do_err1 (q.mono l1) s i l k hk hl hm x a c q1 hok hrt)
  clear S q hnum hk hl hm hfo hcf hla hok hrt
  go_enter Tryd.func23, Tryd.ntmps23
  go_wp2_with fail
  refine HN.out.mono ?_
  rintro e w1 ⟨rfl, s1⟩
  have HC2 := hid (HCP.out w1 _ s1)
  clear s1 HN HCP S1
  go_wp2_with fail
  refine HC2.out.mono ?_
  rintro e w2 ⟨a', c', vss, h1, rfl, l1, q1, s2⟩
  obtain ⟨h2, l2, r2, s3⟩ := store_row s2
  have HD2 := hid (HDO.out w2 h2 _ a' c' (l1.trans l2) s3 (LIn.of_rd (q1.mono l2) r2))
  have LE2 := hid (l1.trans l2)
  clear HC2 HDO l1 q1 s2 l2 r2 s3
  go_wp2_with fail
  refine HD2.out.mono ?_
  rintro e w3 ⟨ty, y, h3, rfl, l3, s3⟩
  have HLE := hid (LE2.out.trans l3)
  obtain ⟨tb, HTB⟩ : ∃ tb, Hid (w3.heap.size = tb) := ⟨_, hid rfl⟩
  have S3 := hid (s3.allocAt (k := w3.heap.size) (.cells #[.int .i64 0, .int .i64 0, .string ⟨#[]⟩, .slice none 0 0, .slice none 0 0, .slice none 0 0] 35) rfl).swap
  rw [HTB.out] at S3
  clear s3 l3 HD2 LE2
  have z0 : World.cell? _ ⟨w.heap.size, 0, none⟩ = some (.int .i64 0) := S3.out.rot3.cell 0
  have f0 := S3.out.rot3.free 0
  have z1 : World.cell? _ ⟨w.heap.size, 1, none⟩ = some (.int .i64 0) := S3.out.rot3.cell 1
  have f1 := S3.out.rot3.free 1
  have z2 : World.cell? _ ⟨w.heap.size, 2, none⟩ = some (.string ⟨#[]⟩) := S3.out.rot3.cell 2
  have f2 := S3.out.rot3.free 2
  have z3 : World.cell? _ ⟨w.heap.size, 3, none⟩ = some (.slice none 0 0) := S3.out.rot3.cell 3
  have f3 := S3.out.rot3.free 3
  have z4 : World.cell? _ ⟨w.heap.size, 4, none⟩ = some (.slice none 0 0) := S3.out.rot3.cell 4
  have f4 := S3.out.rot3.free 4
  have z5 : World.cell? _ ⟨w.heap.size, 5, none⟩ = some (.slice none 0 0) := S3.out.rot3.cell 5
  have f5 := S3.out.rot3.free 5
  have hSw := cells6 S3.out.drew.swap
  go_wp2_with fail
  rw [HTB.out]
  refine wp_region_noPanic ?_
  refine wp_region_L (S := fun w' => World.cell? w' ⟨tb, 0, none⟩ = some (.int .i64 0) ∧ World.cell? w' ⟨tb, 1, none⟩ = some (.int .i64 0) ∧ World.cell? w' ⟨tb, 2, none⟩ = some (.string ⟨#[]⟩) ∧ World.cell? w' ⟨tb, 3, none⟩ = some (.slice none 0 0) ∧ World.cell? w' ⟨tb, 4, none⟩ = some (.slice none 0 0) ∧ World.cell? w' ⟨tb, 5, none⟩ = some (.slice none 0 0)) 7 (by kernel_rfl) ?_
  refine wpAnyL_pure (i := 1) (d := 19) (v := ?_) rfl (by kernel_rfl) (by kernel_rfl) (by kernel_rfl) (by kernel_rfl) (by decide) (fun _ _ _ h => h) (Or.inl ⟨by rfl, ?_⟩) (fun _ => hSw) ?_
  rotate_left
  · intro w _; go_simp; all_goals with_reducible rfl
  try simp only [Act.put, List.setIfInBounds_toArray, List.set_cons_zero, List.set_cons_succ]
  refine wpAnyL_pure (i := 2) (d := 20) (v := ?_) rfl (by kernel_rfl) (by kernel_rfl) (by kernel_rfl) (by kernel_rfl) (by decide) (fun _ _ _ h => h) (Or.inl ⟨by rfl, ?_⟩) (fun _ => hSw) ?_
  rotate_left
  · intro w _; go_simp; all_goals with_reducible rfl
  try simp only [Act.put, List.setIfInBounds_toArray, List.set_cons_zero, List.set_cons_succ]
  refine wpAnyL_pure (i := 3) (d := 21) (v := ?_) rfl (by kernel_rfl) (by kernel_rfl) (by kernel_rfl) (by kernel_rfl) (by decide) (fun _ _ _ h => h) (Or.inl ⟨by rfl, ?_⟩) (fun _ => hSw) ?_
  rotate_left
  · intro w _; go_simp; all_goals with_reducible rfl
  try simp only [Act.put, List.setIfInBounds_toArray, List.set_cons_zero, List.set_cons_succ]
  refine wpAnyL_pure (i := 4) (d := 22) (v := ?_) rfl (by kernel_rfl) (by kernel_rfl) (by kernel_rfl) (by kernel_rfl) (by decide) (fun _ _ _ h => h) (Or.inl ⟨by rfl, ?_⟩) (fun _ => hSw) ?_
  rotate_left
  · intro w _; go_simp; all_goals with_reducible rfl
  try simp only [Act.put, List.setIfInBounds_toArray, List.set_cons_zero, List.set_cons_succ]
  refine wpAnyL_pure (i := 5) (d := 23) (v := ?_) rfl (by kernel_rfl) (by kernel_rfl) (by kernel_rfl) (by kernel_rfl) (by decide) (fun _ _ _ h => h) (Or.inl ⟨by rfl, ?_⟩) (fun _ => hSw) ?_
  rotate_left
  · intro w _; go_simp; all_goals with_reducible rfl
  try simp only [Act.put, List.setIfInBounds_toArray, List.set_cons_zero, List.set_cons_succ]
  refine wpAnyL_pure (i := 6) (d := 24) (v := ?_) rfl (by kernel_rfl) (by kernel_rfl) (by kernel_rfl) (by kernel_rfl) (by decide) (fun _ _ _ h => h) (Or.inl ⟨by rfl, ?_⟩) (fun _ => hSw) ?_
  rotate_left
  · intro w _; go_simp; all_goals with_reducible rfl
  try simp only [Act.put, List.setIfInBounds_toArray, List.set_cons_zero, List.set_cons_succ]
  refine wpAnyL_load (i := 0) (d := 18) (v := ?_) rfl (by kernel_rfl) (by kernel_rfl) (by kernel_rfl) (by kernel_rfl) (by decide) (by kernel_rfl) (by kernel_rfl) (fun _ _ _ h => h) (Or.inl ⟨by rfl, ?_⟩) hSw ?_
  rotate_left
  · intro w hSw; (try dsimp only at hSw); go_simp; all_goals with_reducible rfl
  try simp only [Act.put, List.setIfInBounds_toArray, List.set_cons_zero, List.set_cons_succ]
  refine wpAnyL_ready (rs := [7]) (by kernel_rfl) (by simp) ?_
  refine AllL.cons (o := _) rfl (fun K hK => ?_) AllL.nil
  go_simp
  refine hK.out _ _ (fun hv => absurd hv (by decide +kernel)) ?_
  clear hK K
  try simp only [Act.put, List.setIfInBounds_toArray, List.set_cons_zero, List.set_cons_succ]
  refine wpAnyL_ready (rs := [8]) (by kernel_rfl) (by simp) ?_
  refine AllL.cons (o := _) rfl (fun K hK => ?_) AllL.nil
  go_simp
  refine hK.out _ _ (fun hv => absurd hv (by decide +kernel)) ?_
  clear hK K
  try simp only [Act.put, List.setIfInBounds_toArray, List.set_cons_zero, List.set_cons_succ]
  refine wpAnyL_done (by kernel_rfl) ?_ _
  refine NoPanic.normal ?_
  go_wp2_with fail
  have s8 := ((((((S3.out.rot3.set 0 (.int .i64 0)).set 1 (.int .i64 0)).set 2 (.string ⟨#[]⟩)).set 3 (.slice none 0 0)).set 4 (.slice none 0 0)).set 5 (.slice none 0 0)).drop.swap.drop.drew
  refine bodyPost_ret (v := .tuple #[.agg #[.int .i64 0, .int .i64 0, .string ⟨#[]⟩, .slice none 0 0, .slice none 0 0, .slice none 0 0], .bool false]) (by simp [results, Tryd.results23, go_sem, z0, z1, z2, z3, z4, z5]) rfl ?_
  exact ⟨none, 0, none, 0, none, 0, h3, rfl, HLE.out, s8, in_Z0 _⟩
theorem do_bad1 {b : Nat} {a0 a1 a2 a3 a4 a5 : Value} (q : TabS h) (S : Sat W w (blk b (.cells #[a0, a1, a2, a3, a4, a5] 35 (0, 0)) :: arch h :: L)) {i : Nat} {nm : ByteArray} {fo : Option Nat} (F : FnOk i nm 1 fo) (t : T) (q1 : TIn h t [a0, a1, a2, a3, a4, a5]) (o1 : TOk t) {nk : Nat × Int} (hrt : rightOf t = some nk) :
    Calls Tryd.prog 23 #[.string nm, .slice (some ⟨b, 0, none⟩) 1 1] w (BadL W L h) := by
  obtain ⟨h1, l1, r1', s1⟩ := store_cells (cs := [a0, a1, a2, a3, a4, a5]) S
  have hla : LIn h1 [t] (some ⟨b, 0, none⟩) 0 := LIn.of_rd (vss := [[a0, a1, a2, a3, a4, a5]]) (by simp only [TsIn]; exact ⟨_, _, rfl, q1.mono l1, rfl⟩) (by simpa using r1')
  refine (lawdo_err (q.mono l1) s1 F t _ 1 hla o1 hrt).mono ?_
  rintro e w' ⟨ia, ic, ra, rc, ba, bc, h', e1, l2, x⟩
  exact ⟨ia, ic, ra, rc, ba, bc, h', e1, l1.trans l2, x⟩
end
#print axioms do_bad1
end Go.Proofs.YtlgogflhjpcmlaaDoor
