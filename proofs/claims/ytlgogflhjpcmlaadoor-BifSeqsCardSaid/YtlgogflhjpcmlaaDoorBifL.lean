/-
  bif: length, sum. (Written by wip/gen/gen_bifl.py.)
-/
import Derived.Test.YtlgogflhjpcmlaaDoorBifP
namespace Go.Proofs.YtlgogflhjpcmlaaDoor
open Go.RowKit
set_option maxHeartbeats 4000000
set_option maxRecDepth 100000
/-- the sum of so many numbers -/
def sumF : List T → Int → Int
  | [], a => a
  | t :: ts, a => sumF ts (wrap64 (a + t.n))
theorem sumF_snoc (ts : List T) (t : T) : ∀ a, sumF (ts ++ [t]) a = wrap64 (sumF ts a + t.n) := by
  induction ts with
  | nil => intro a; rfl
  | cons x ts ih => intro a; exact ih _
theorem ok_meth {W w' : World} {L : List HP} {h h' : Nat → Option Obj} {t : T} {vs : List Value} {b : Bool} (l : Le h h') (s : Sat W w' (arch h' :: L)) (q : TIn h' t vs) : MethP W L h (if b = true then some t else none) (.returned (.tuple #[.agg vs.toArray, .bool b])) w' := by
  cases b with
  | true => exact MethP.some' rfl l s q
  | false => exact MethP.none' rfl l s q
section
variable {W w : World} {L : List HP} {h : Nat → Option Obj} {cb : Nat}
theorem length_m (S : Sat W w (arch h :: L)) (x : T) (hc : CArg h cb 21 [x]) (hok : TOk x) :
    Calls Tryd.prog 52 #[.pointer (some ⟨cb, 0, none⟩)] w (MethP W L h (if propB x.k x.rs.length = true then some (tN x.is.length) else none)) := by
  obtain ⟨a, c, hcb, hl⟩ := hc
  obtain ⟨g, off, vs, rfl, hcx, hix⟩ := hl.get (j := 0) (t := x) rfl
  obtain ⟨ix, icx, rx, rcx, yx, ycx, rfl, hls, _⟩ := id hix.vals
  have SS := hid (S.allocAt (k := w.heap.size) (.cells #[.int .i64 0, .int .i64 0, .string ⟨#[]⟩, .slice none 0 0, .slice none 0 0, .slice none 0 0] 35) rfl).swap
  have k0 := SS.out.archCell hcb 0
  have k1 := SS.out.archCell hcb 1
  have x0 : World.cell? _ ⟨g, off, none⟩ = some (.int .i64 x.k) := cell_at SS.out hcx 0 rfl (by omega)
  have x1 : World.cell? _ ⟨g, off + 1, none⟩ = some (.int .i64 x.n) := cell_at SS.out hcx 1 rfl (by omega)
  have x2 : World.cell? _ ⟨g, off + 2, none⟩ = some (.string x.nm) := cell_at SS.out hcx 2 rfl (by omega)
  have x3 : World.cell? _ ⟨g, off + 3, none⟩ = some (.slice ix x.is.length icx) := cell_at SS.out hcx 3 rfl (by omega)
  have x4 : World.cell? _ ⟨g, off + 4, none⟩ = some (.slice rx x.rs.length rcx) := cell_at SS.out hcx 4 rfl (by omega)
  have x5 : World.cell? _ ⟨g, off + 5, none⟩ = some (.slice yx x.bs.length ycx) := cell_at SS.out hcx 5 rfl (by omega)
  simp only [List.getElem?_toArray, List.getElem?_cons_succ, List.getElem?_cons_zero, List.length_cons, List.length_nil] at k0 k1
  have HP := hid (proper_any SS.out x.k x.n x.nm ix rx yx x.is.length x.rs.length x.bs.length icx rcx ycx hok.fit.rs)
  generalize hpb : propB x.k x.rs.length = pb at HP ⊢
  generalize hr : (if pb = true then some (tN x.is.length) else none) = r
  have HR := hid hr
  clear hr hpb
  have hb := hok.fit.is
  clear hcb hl hcx hix S hls hok
  go_enter Tryd.func52, Tryd.ntmps52
  go_wp2_with fail
  refine HP.out.mono ?_
  rintro e w1 ⟨rfl, s1⟩
  have HN := hid (numb_any s1 (x.is.length : Int))
  clear HP s1 k0 k1 x0 x1 x2 x3 x4 x5 SS
  go_wp2_with fail
  refine HN.out.mono ?_
  rintro e w2 ⟨rfl, s2⟩
  have S3 := hid s2.swap
  clear HN s2
  have z0 : World.cell? w2 ⟨w.heap.size, 0, none⟩ = some (.int .i64 0) := S3.out.cell 0
  have f0 := S3.out.free 0
  have z1 : World.cell? w2 ⟨w.heap.size, 1, none⟩ = some (.int .i64 0) := S3.out.cell 1
  have f1 := S3.out.free 1
  have z2 : World.cell? w2 ⟨w.heap.size, 2, none⟩ = some (.string ⟨#[]⟩) := S3.out.cell 2
  have f2 := S3.out.free 2
  have z3 : World.cell? w2 ⟨w.heap.size, 3, none⟩ = some (.slice none 0 0) := S3.out.cell 3
  have f3 := S3.out.free 3
  have z4 : World.cell? w2 ⟨w.heap.size, 4, none⟩ = some (.slice none 0 0) := S3.out.cell 4
  have f4 := S3.out.free 4
  have z5 : World.cell? w2 ⟨w.heap.size, 5, none⟩ = some (.slice none 0 0) := S3.out.cell 5
  have f5 := S3.out.free 5
  go_wp2_with fail
  have s7 := ((((((S3.out.set 0 (.int .i64 1)).set 1 (.int .i64 (x.is.length))).set 2 (.string ⟨#[]⟩)).set 3 (.slice none 0 0)).set 4 (.slice none 0 0)).set 5 (.slice none 0 0))
  refine bodyPost_ret (v := .tuple #[.agg #[.int .i64 1, .int .i64 (x.is.length), .string ⟨#[]⟩, .slice none 0 0, .slice none 0 0, .slice none 0 0], .bool pb]) (by simp [results, Tryd.results52, go_sem, z0, z1, z2, z3, z4, z5]) rfl ?_
  exact (by rw [← HR.out]; exact ok_meth (Le.refl _) s7.drop (in_N _ _))
theorem sum_m (S : Sat W w (arch h :: L)) (x : T) (hc : CArg h cb 36 [x]) (hok : TOk x) :
    Calls Tryd.prog 61 #[.pointer (some ⟨cb, 0, none⟩)] w (MethP W L h (if (propB x.k x.rs.length && x.is.all fun t => t.k == 1) = true then some (tN (sumF x.is 0)) else none)) := by
  obtain ⟨a, c, hcb, hl⟩ := hc
  obtain ⟨g, off, vs, rfl, hcx, hix⟩ := hl.get (j := 0) (t := x) rfl
  obtain ⟨ix, icx, rx, rcx, yx, ycx, rfl, hls, _⟩ := id hix.vals
  have SS := hid (S.allocAt (k := w.heap.size) (.cells #[.int .i64 0, .int .i64 0, .string ⟨#[]⟩, .slice none 0 0, .slice none 0 0, .slice none 0 0] 35) rfl).swap
  have k0 := SS.out.archCell hcb 0
  have k1 := SS.out.archCell hcb 1
  have x0 : World.cell? _ ⟨g, off, none⟩ = some (.int .i64 x.k) := cell_at SS.out hcx 0 rfl (by omega)
  have x1 : World.cell? _ ⟨g, off + 1, none⟩ = some (.int .i64 x.n) := cell_at SS.out hcx 1 rfl (by omega)
  have x2 : World.cell? _ ⟨g, off + 2, none⟩ = some (.string x.nm) := cell_at SS.out hcx 2 rfl (by omega)
  have x3 : World.cell? _ ⟨g, off + 3, none⟩ = some (.slice ix x.is.length icx) := cell_at SS.out hcx 3 rfl (by omega)
  have x4 : World.cell? _ ⟨g, off + 4, none⟩ = some (.slice rx x.rs.length rcx) := cell_at SS.out hcx 4 rfl (by omega)
  have x5 : World.cell? _ ⟨g, off + 5, none⟩ = some (.slice yx x.bs.length ycx) := cell_at SS.out hcx 5 rfl (by omega)
  simp only [List.getElem?_toArray, List.getElem?_cons_succ, List.getElem?_cons_zero, List.length_cons, List.length_nil] at k0 k1
  have HP := hid (proper_any SS.out x.k x.n x.nm ix rx yx x.is.length x.rs.length x.bs.length icx rcx ycx hok.fit.rs)
  generalize hpb : propB x.k x.rs.length = pb at HP ⊢
  generalize hr : (if (pb && x.is.all fun t => t.k == 1) = true then some (tN (sumF x.is 0)) else none) = r
  have HR := hid hr
  clear hr hpb
  have hb := hok.fit.is
  obtain ⟨m, HM⟩ : ∃ m, Hid (x.is.length = m) := ⟨_, hid rfl⟩
  rw [HM.out] at hb HP x3
  have HLS := hid hls
  clear hcb hl hcx hix S hls hok
  go_enter Tryd.func61, Tryd.ntmps61
  go_wp2_with fail
  refine HP.out.mono ?_
  rintro e w1 ⟨rfl, s1⟩
  have S1 := hid s1
  clear HP s1 k0 k1 x0 x1 x2 x3 x4 x5 SS
  go_wp2_with fail
  go_loopw [5, 6, 21] (fun ov nv iv wr => ∃ j : Nat, j ≤ m ∧ iv = .int .i64 j ∧ (∃ b : Bool, ov = .bool b ∧ Hid (b = (pb && (x.is.take j).all fun t => t.k == 1))) ∧ (∃ z : Int, nv = .int .i64 z ∧ Hid (z = sumF (x.is.take j) 0)) ∧ Hid (Sat W wr (arch h :: blk w.heap.size (.cells #[.int .i64 0, .int .i64 0, .string ⟨#[]⟩, .slice none 0 0, .slice none 0 0, .slice none 0 0] 35 (0, 0)) :: L))) (fun _ _ iv _ => m - (intOf iv).toNat)
  case atStart => exact ⟨0, Nat.zero_le _, rfl, ⟨pb, rfl, hid (by simp)⟩, ⟨0, rfl, hid rfl⟩, S1⟩
  case round =>
    obtain ⟨j, hj, rfl, ⟨b, rfl, HB⟩, ⟨z, rfl, HZ⟩, S⟩ := hrel
    clear S1
    by_cases hlt : j < m
    · obtain ⟨t, ht⟩ : ∃ t, x.is[j]? = some t := ⟨_, List.getElem?_eq_getElem (by have := HM.out; omega)⟩
      obtain ⟨g2, off2, us, rfl, hc2, hin⟩ := HLS.out.get ht
      obtain ⟨ia, ic, ra, rc, ba, bc, rfl, _⟩ := id hin.vals
      have k0 := S.out.cellIn (hc2 0 _ rfl)
      have k1 := S.out.cellIn (hc2 1 _ rfl)
      have k2 := S.out.cellIn (hc2 2 _ rfl)
      have k3 := S.out.cellIn (hc2 3 _ rfl)
      have k4 := S.out.cellIn (hc2 4 _ rfl)
      have k5 := S.out.cellIn (hc2 5 _ rfl)
      rw [Nat.zero_add] at k0 k1 k2 k3 k4 k5
      rw [Nat.add_zero] at k0
      have HT := hid ht
      have S2 := hid (S.out.alloc' (.cells #[.int .i64 t.k, .int .i64 t.n, .string t.nm, .slice ia t.is.length ic, .slice ra t.rs.length rc, .slice ba t.bs.length bc] 35))
      have HZ2 : Hid (wrap64 (z + t.n) = sumF (x.is.take (j + 1)) 0) := hid (by rw [List.take_add_one, HT.out, Option.toList_some, sumF_snoc, HZ.out])
      have HB2 : Hid ((b && t.k == 1) = (pb && (x.is.take (j + 1)).all fun t => t.k == 1)) := hid (by rw [List.take_add_one, HT.out, Option.toList_some, List.all_append, HB.out]; simp [Bool.and_assoc])
      have hw : IntKind.i64.wrap (z + t.n) = wrap64 (z + t.n) := wrapi _
      clear hc2 hin ht S
      cases b with
      | true =>
        go_wp2_with fail
        go_roundw
        case rel => exact ⟨j + 1, by omega, by go_num, ⟨_, rfl, hid (by have := HB2.out; simpa using this)⟩, ⟨_, rfl, HZ2⟩, S2⟩
        case measure => simp [intOf]; omega
      | false =>
        go_wp2_with fail
        go_roundw
        case rel => exact ⟨j + 1, by omega, by go_num, ⟨_, rfl, hid (by have := HB2.out; simpa using this)⟩, ⟨_, rfl, HZ2⟩, S2⟩
        case measure => simp [intOf]; omega
    · obtain rfl : j = m := by omega
      have hb1 : b = (pb && x.is.all fun t => t.k == 1) := by have := HB.out; rwa [List.take_of_length_le (by rw [HM.out]; exact Nat.le_refl _)] at this
      have hz1 : z = sumF x.is 0 := by have := HZ.out; rwa [List.take_of_length_le (by rw [HM.out]; exact Nat.le_refl _)] at this
      have HBZ : Hid (r = if b = true then some (tN z) else none) := hid (by rw [hb1, hz1]; exact HR.out.symm)
      have HN := hid (numb_any S.out z)
      clear hb1 hz1 HB HZ HR
      go_wp2_with fail
      refine HN.out.mono ?_
      rintro e w2 ⟨rfl, s2⟩
      have S3 := hid s2.swap
      clear HN s2 S
      have z0 : World.cell? w2 ⟨w.heap.size, 0, none⟩ = some (.int .i64 0) := S3.out.cell 0
      have f0 := S3.out.free 0
      have z1 : World.cell? w2 ⟨w.heap.size, 1, none⟩ = some (.int .i64 0) := S3.out.cell 1
      have f1 := S3.out.free 1
      have z2 : World.cell? w2 ⟨w.heap.size, 2, none⟩ = some (.string ⟨#[]⟩) := S3.out.cell 2
      have f2 := S3.out.free 2
      have z3 : World.cell? w2 ⟨w.heap.size, 3, none⟩ = some (.slice none 0 0) := S3.out.cell 3
      have f3 := S3.out.free 3
      have z4 : World.cell? w2 ⟨w.heap.size, 4, none⟩ = some (.slice none 0 0) := S3.out.cell 4
      have f4 := S3.out.free 4
      have z5 : World.cell? w2 ⟨w.heap.size, 5, none⟩ = some (.slice none 0 0) := S3.out.cell 5
      have f5 := S3.out.free 5
      go_wp2_with fail
      have s7 := ((((((S3.out.set 0 (.int .i64 1)).set 1 (.int .i64 (z))).set 2 (.string ⟨#[]⟩)).set 3 (.slice none 0 0)).set 4 (.slice none 0 0)).set 5 (.slice none 0 0))
      refine bodyPost_ret (v := .tuple #[.agg #[.int .i64 1, .int .i64 (z), .string ⟨#[]⟩, .slice none 0 0, .slice none 0 0, .slice none 0 0], .bool b]) (by simp [results, Tryd.results61, go_sem, z0, z1, z2, z3, z4, z5]) rfl ?_
      exact (by rw [HBZ.out]; exact ok_meth (Le.refl _) s7.drop (in_N _ _))
end
end Go.Proofs.YtlgogflhjpcmlaaDoor
