/-
  bif: element, of a number and a tuple. (Written by wip/gen/gen_bifel.py.)
-/
import Derived.Test.YtlgogflhjpcmlaaDoorBifP
import Derived.Deep.RegionHeld3
namespace Go.Proofs.YtlgogflhjpcmlaaDoor
open Go.RowKit
set_option maxHeartbeats 8000000
set_option maxRecDepth 100000
/-- a tuple's i-th item, from 1 on -/
def elemO (i : Int) (ts : List T) : Option T := if 1 ≤ i ∧ i ≤ ts.length then ts[(i - 1).toNat]? else none
section
variable {W w : World} {L : List HP} {h : Nat → Option Obj} {cb : Nat}
theorem element_m (S : Sat W w (arch h :: L)) (i : Int) (t : T) (hc : CArg h cb 15 [tN i, t]) (hok : TOk t) (hk : t.k = 5) :
    Calls Tryd.prog 46 #[.pointer (some ⟨cb, 0, none⟩)] w (MethP W L h (elemO i t.is)) := by
  obtain ⟨a, c, hcb, hl⟩ := hc
  obtain ⟨g, off, vs, rfl, hcx, hix⟩ := hl.get (j := 0) (t := tN i) rfl
  obtain ⟨g', off', us, hgg, hcy, hiy⟩ := hl.get (j := 1) (t := t) rfl
  cases hgg
  obtain ⟨ix, icx, rx, rcx, yx, ycx, rfl, _⟩ := id hix.vals
  obtain ⟨it, ict, rt, rct, yt, yct, rfl, hls, _⟩ := id hiy.vals
  obtain ⟨n, HN⟩ : ∃ n, Hid (t.is.length = n) := ⟨_, hid rfl⟩
  have hn : n ≤ 1353245080300 := by rw [← HN.out]; exact hok.fit.is
  have HF : Hid (∀ (w' : World) (M : List HP), Sat W w' (arch h :: M) → World.cell? w' ⟨cb, 1, none⟩ = some (.slice (some ⟨g, off, none⟩) 2 c) ∧ World.cell? w' ⟨g, off, none⟩ = some (.int .i64 1) ∧ World.cell? w' ⟨g, off + 1, none⟩ = some (.int .i64 i) ∧ World.cell? w' ⟨g, off + 2, none⟩ = some (.string ⟨#[]⟩) ∧ World.cell? w' ⟨g, off + 3, none⟩ = some (.slice ix 0 icx) ∧ World.cell? w' ⟨g, off + 4, none⟩ = some (.slice rx 0 rcx) ∧ World.cell? w' ⟨g, off + 5, none⟩ = some (.slice yx 0 ycx) ∧ World.cell? w' ⟨g, off + 6 + 3, none⟩ = some (.slice it n ict) ∧ World.cell? w' ⟨g, off + 9, none⟩ = some (.slice it n ict) ∧ World.cell? w' ⟨g, off + 6, none⟩ = some (.int .i64 5)) := hid (fun w' M s => by
    rw [← HN.out, ← hk]
    exact ⟨(s.archCell hcb 1).trans rfl, cell_at s hcx 0 rfl (by omega), cell_at s hcx 1 rfl (by omega), cell_at s hcx 2 rfl (by omega), cell_at s hcx 3 rfl (by omega), cell_at s hcx 4 rfl (by omega), cell_at s hcx 5 rfl (by omega), cell_at s hcy 3 rfl (by omega), cell_at s hcy 3 rfl (by omega), cell_at s hcy 0 rfl (by omega)⟩)
  have HLS := hid hls
  have HP : Hid (∀ (w' : World) (M : List HP), Sat W w' M → Calls Tryd.prog 68 #[.agg #[.int .i64 1, .int .i64 i, .string ⟨#[]⟩, .slice ix 0 icx, .slice rx 0 rcx, .slice yx 0 ycx], .int .i64 1, .int .i64 (n : Int)] w' fun e w2 => e = .returned (.tuple #[.int .i64 (placeO 1 i 1 n).1, .bool (placeO 1 i 1 n).2]) ∧ Sat W w2 M) := hid (fun w' M s => place_m s 1 i ⟨#[]⟩ _ _ _ 1 n (by decide) (by omega))
  have SS := hid (S.allocAt (k := w.heap.size) (.cells #[.int .i64 0, .int .i64 0, .string ⟨#[]⟩, .slice none 0 0, .slice none 0 0, .slice none 0 0] 35) rfl).swap
  obtain ⟨p, HPP⟩ : ∃ p, Hid (placeO 1 i 1 n = p) := ⟨_, hid rfl⟩
  obtain ⟨r, HR⟩ : ∃ r, Hid (elemO i t.is = r) := ⟨_, hid rfl⟩
  rw [HR.out]
  rw [HPP.out] at HP
  have key : (p = (0, false) ∧ r = none) ∨ (p = (i - 1, true) ∧ 0 ≤ i - 1 ∧ i - 1 < n ∧ r = t.is[(i - 1).toNat]?) := by
    rw [← HPP.out, ← HR.out]
    unfold placeO elemO
    by_cases q : 1 ≤ i ∧ i ≤ n
    · exact .inr ⟨by rw [if_pos (by omega)], by omega, by omega, by rw [if_pos (by rw [HN.out]; exact q)]⟩
    · exact .inl ⟨by rw [if_neg (by omega)], by rw [if_neg (by rw [HN.out]; exact q)]⟩
  clear hcb hl hcx hcy hix hiy S hls hok hk HR HPP
  rcases key with ⟨rfl, rfl⟩ | ⟨rfl, h0, h1, hr⟩
  · go_enter Tryd.func46, Tryd.ntmps46
    go_upto_region 1 with fail
    replace SS := hid SS.out.drew
    go_region_held3 (fun w' => World.cell? w' ⟨cb, 1, none⟩ = some (.slice (some ⟨g, off, none⟩) 2 c) ∧ World.cell? w' ⟨g, off, none⟩ = some (.int .i64 1) ∧ World.cell? w' ⟨g, off + 1, none⟩ = some (.int .i64 i) ∧ World.cell? w' ⟨g, off + 2, none⟩ = some (.string ⟨#[]⟩) ∧ World.cell? w' ⟨g, off + 3, none⟩ = some (.slice ix 0 icx) ∧ World.cell? w' ⟨g, off + 4, none⟩ = some (.slice rx 0 rcx) ∧ World.cell? w' ⟨g, off + 5, none⟩ = some (.slice yx 0 ycx) ∧ World.cell? w' ⟨g, off + 6 + 3, none⟩ = some (.slice it n ict) ∧ World.cell? w' ⟨g, off + 9, none⟩ = some (.slice it n ict) ∧ World.cell? w' ⟨g, off + 6, none⟩ = some (.int .i64 5)) (exact HF.out _ _ SS.out) (first
      | (go_at_call 68
         with_reducible refine (HP.out _ _ SS.out).mono ?_
         rintro e wc ⟨rfl, s⟩
         replace SS := hid s
         clear s))
    have S3 := hid SS.out.swap
    clear HF HP SS
    have z0 : World.cell? wc ⟨w.heap.size, 0, none⟩ = some (.int .i64 0) := S3.out.cell 0
    have z1 : World.cell? wc ⟨w.heap.size, 1, none⟩ = some (.int .i64 0) := S3.out.cell 1
    have z2 : World.cell? wc ⟨w.heap.size, 2, none⟩ = some (.string ⟨#[]⟩) := S3.out.cell 2
    have z3 : World.cell? wc ⟨w.heap.size, 3, none⟩ = some (.slice none 0 0) := S3.out.cell 3
    have z4 : World.cell? wc ⟨w.heap.size, 4, none⟩ = some (.slice none 0 0) := S3.out.cell 4
    have z5 : World.cell? wc ⟨w.heap.size, 5, none⟩ = some (.slice none 0 0) := S3.out.cell 5
    have f0 := S3.out.free 0
    have f1 := S3.out.free 1
    have f2 := S3.out.free 2
    have f3 := S3.out.free 3
    have f4 := S3.out.free 4
    have f5 := S3.out.free 5
    go_wp2_with fail
    have s7 := ((((((S3.out.set 0 (.int .i64 0)).set 1 (.int .i64 0)).set 2 (.string ⟨#[]⟩)).set 3 (.slice none 0 0)).set 4 (.slice none 0 0)).set 5 (.slice none 0 0))
    refine bodyPost_ret (v := .tuple #[.agg #[.int .i64 0, .int .i64 0, .string ⟨#[]⟩, .slice none 0 0, .slice none 0 0, .slice none 0 0], .bool false]) (by simp [results, Tryd.results46, go_sem, z0, z1, z2, z3, z4, z5]) rfl ?_
    exact MethP.none' rfl (Le.refl _) s7.drop (in_Z0 _)
  · obtain ⟨e, he⟩ : ∃ e, t.is[(i - 1).toNat]? = some e := ⟨_, List.getElem?_eq_getElem (by have := HN.out; omega)⟩
    rw [he] at hr
    subst hr
    obtain ⟨j, rfl⟩ : ∃ j : Nat, i = (j : Int) + 1 := ⟨(i - 1).toNat, by omega⟩
    have ej : ((j : Int) + 1 - 1) = (j : Int) := by omega
    rw [ej] at h0 h1 he HP
    rw [Int.toNat_natCast] at he
    obtain ⟨g2, off2, us2, rfl, hc2, hin2⟩ := HLS.out.get he
    obtain ⟨ie, ice, re, rce, ye, yce, rfl, _⟩ := id hin2.vals
    have HE := hid hin2
    have HC2 := hid hc2
    clear hc2 hin2 he
    go_enter Tryd.func46, Tryd.ntmps46
    go_upto_region 1 with fail
    replace SS := hid SS.out.drew
    go_region_held3 (fun w' => World.cell? w' ⟨cb, 1, none⟩ = some (.slice (some ⟨g, off, none⟩) 2 c) ∧ World.cell? w' ⟨g, off, none⟩ = some (.int .i64 1) ∧ World.cell? w' ⟨g, off + 1, none⟩ = some (.int .i64 ((j : Int) + 1)) ∧ World.cell? w' ⟨g, off + 2, none⟩ = some (.string ⟨#[]⟩) ∧ World.cell? w' ⟨g, off + 3, none⟩ = some (.slice ix 0 icx) ∧ World.cell? w' ⟨g, off + 4, none⟩ = some (.slice rx 0 rcx) ∧ World.cell? w' ⟨g, off + 5, none⟩ = some (.slice yx 0 ycx) ∧ World.cell? w' ⟨g, off + 6 + 3, none⟩ = some (.slice (some ⟨g2, off2, none⟩) n ict) ∧ World.cell? w' ⟨g, off + 9, none⟩ = some (.slice (some ⟨g2, off2, none⟩) n ict) ∧ World.cell? w' ⟨g, off + 6, none⟩ = some (.int .i64 5)) (exact HF.out _ _ SS.out) (first
      | (go_at_call 68
         with_reducible refine (HP.out _ _ SS.out).mono ?_
         rintro e wc ⟨rfl, s⟩
         replace SS := hid s
         clear s))
    have S3 := hid SS.out.swap
    obtain ⟨y0, y1, y2, y3, y4, y5, y6, y7, y8, y9⟩ := HF.out _ _ SS.out
    have k0 := SS.out.cellIn (HC2.out 0 _ rfl)
    have k1 := SS.out.cellIn (HC2.out 1 _ rfl)
    have k2 := SS.out.cellIn (HC2.out 2 _ rfl)
    have k3 := SS.out.cellIn (HC2.out 3 _ rfl)
    have k4 := SS.out.cellIn (HC2.out 4 _ rfl)
    have k5 := SS.out.cellIn (HC2.out 5 _ rfl)
    rw [Nat.zero_add] at k0 k1 k2 k3 k4 k5
    rw [Nat.add_zero] at k0
    clear HF HP SS
    have z0 : World.cell? wc ⟨w.heap.size, 0, none⟩ = some (.int .i64 0) := S3.out.cell 0
    have z1 : World.cell? wc ⟨w.heap.size, 1, none⟩ = some (.int .i64 0) := S3.out.cell 1
    have z2 : World.cell? wc ⟨w.heap.size, 2, none⟩ = some (.string ⟨#[]⟩) := S3.out.cell 2
    have z3 : World.cell? wc ⟨w.heap.size, 3, none⟩ = some (.slice none 0 0) := S3.out.cell 3
    have z4 : World.cell? wc ⟨w.heap.size, 4, none⟩ = some (.slice none 0 0) := S3.out.cell 4
    have z5 : World.cell? wc ⟨w.heap.size, 5, none⟩ = some (.slice none 0 0) := S3.out.cell 5
    have f0 := S3.out.free 0
    have f1 := S3.out.free 1
    have f2 := S3.out.free 2
    have f3 := S3.out.free 3
    have f4 := S3.out.free 4
    have f5 := S3.out.free 5
    go_wp2_with fail
    have s7 := ((((((S3.out.set 0 (.int .i64 e.k)).set 1 (.int .i64 e.n)).set 2 (.string e.nm)).set 3 (.slice ie e.is.length ice)).set 4 (.slice re e.rs.length rce)).set 5 (.slice ye e.bs.length yce))
    refine bodyPost_ret (v := .tuple #[.agg #[.int .i64 e.k, .int .i64 e.n, .string e.nm, .slice ie e.is.length ice, .slice re e.rs.length rce, .slice ye e.bs.length yce], .bool true]) (by simp [results, Tryd.results46, go_sem, z0, z1, z2, z3, z4, z5]) rfl ?_
    exact MethP.some' rfl (Le.refl _) s7.drop HE.out
end
#print axioms element_m
end Go.Proofs.YtlgogflhjpcmlaaDoor
