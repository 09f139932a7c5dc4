/-
  bif: ints, number, truth, reckon. (Written by wip/gen/gen_bifr.py.)
-/
import Derived.Test.YtlgogflhjpcmlaaDoorBifN
namespace Go.Proofs.YtlgogflhjpcmlaaDoor
open Go.RowKit
set_option maxHeartbeats 1000000
set_option maxRecDepth 100000

/-- a call's block: which function, its arguments -/
def CArg (h : Nat → Option Obj) (cb : Nat) (n : Int) (ts : List T) : Prop := ∃ a c, h cb = some (.cells #[.int .i64 n, .slice a ts.length c] 63 (0, 0)) ∧ LIn h ts a 0
theorem CArg.mono {h h' : Nat → Option Obj} {cb : Nat} {n : Int} {ts : List T} (l : Le h h') (q : CArg h cb n ts) : CArg h' cb n ts := by
  obtain ⟨a, c, e, q⟩ := q
  exact ⟨a, c, l _ _ e, q.mono l⟩
def tN (n : Int) : T := .mk 1 n ⟨#[]⟩ [] [] []
def tW (s : ByteArray) : T := .mk 2 0 s [] [] []
def sTrue : ByteArray := ⟨#[116, 114, 117, 101]⟩
def sFalse : ByteArray := ⟨#[102, 97, 108, 115, 101]⟩
def tTr (b : Bool) : T := tW (if b then sTrue else sFalse)
theorem in_N (h : Nat → Option Obj) (n : Int) : TIn h (tN n) [.int .i64 1, .int .i64 n, .string ⟨#[]⟩, .slice none 0 0, .slice none 0 0, .slice none 0 0] :=
  TIn.of (t := tN n) (ia := none) (ra := none) (ba := none) (ic := 0) (rc := 0) (bc := 0) (LIn.nil _ _) (LIn.nil _ _) (RdIn.nil _ _) (by simp [tN, T.is, T.rs, T.bs, maxLen])
theorem in_W (h : Nat → Option Obj) (s : ByteArray) : TIn h (tW s) [.int .i64 2, .int .i64 0, .string s, .slice none 0 0, .slice none 0 0, .slice none 0 0] :=
  TIn.of (t := tW s) (ia := none) (ra := none) (ba := none) (ic := 0) (rc := 0) (bc := 0) (LIn.nil _ _) (LIn.nil _ _) (RdIn.nil _ _) (by simp [tW, T.is, T.rs, T.bs, maxLen])
def tZ0 : T := .mk 0 0 ⟨#[]⟩ [] [] []
theorem in_Z0 (h : Nat → Option Obj) : TIn h tZ0 [.int .i64 0, .int .i64 0, .string ⟨#[]⟩, .slice none 0 0, .slice none 0 0, .slice none 0 0] :=
  TIn.of (t := tZ0) (ia := none) (ra := none) (ba := none) (ic := 0) (rc := 0) (bc := 0) (LIn.nil _ _) (LIn.nil _ _) (RdIn.nil _ _) (by simp [tZ0, T.is, T.rs, T.bs, maxLen])
/-- what a function of bif tells: a term, or that the arguments are wrong -/
def MethP (W : World) (L : List HP) (h : Nat → Option Obj) (r : Option T) (e : Ending) (w' : World) : Prop :=
  ∃ t vs h' ok, e = .returned (.tuple #[.agg vs.toArray, .bool ok]) ∧ Le h h' ∧ Sat W w' (arch h' :: L) ∧ TIn h' t vs ∧ (∀ u, r = some u → ok = true ∧ t = u) ∧ (r = none → ok = false)
theorem MethP.some' {W w' : World} {L : List HP} {h h' : Nat → Option Obj} {t : T} {vs : List Value} {e : Ending} (he : e = .returned (.tuple #[.agg vs.toArray, .bool true])) (l : Le h h') (s : Sat W w' (arch h' :: L)) (q : TIn h' t vs) : MethP W L h (some t) e w' :=
  ⟨t, vs, h', true, he, l, s, q, (fun u hu => ⟨rfl, by cases hu; rfl⟩), (fun hn => by cases hn)⟩
theorem MethP.none' {W w' : World} {L : List HP} {h h' : Nat → Option Obj} {t : T} {vs : List Value} {e : Ending} (he : e = .returned (.tuple #[.agg vs.toArray, .bool false])) (l : Le h h') (s : Sat W w' (arch h' :: L)) (q : TIn h' t vs) : MethP W L h none e w' :=
  ⟨t, vs, h', false, he, l, s, q, (fun u hu => by cases hu), fun _ => rfl⟩
section
variable {W w : World} {L : List HP} {h : Nat → Option Obj} {cb : Nat} {n : Int}
theorem numb_any (S : Sat W w L) (x : Int) :
    Calls Tryd.prog 43 #[.int .i64 x] w fun e w' => e = .returned (.agg #[.int .i64 1, .int .i64 x, .string ⟨#[]⟩, .slice none 0 0, .slice none 0 0, .slice none 0 0]) ∧ Sat W w' L := by
  have S1 := hid (S.alloc' (.cells #[.int .i64 1, .int .i64 x, .string ⟨#[]⟩, .slice none 0 0, .slice none 0 0, .slice none 0 0] 35))
  clear S
  go_enter Tryd.func43, Tryd.ntmps43
  go_wp2_with fail
  refine bodyPost_ret (v := .agg #[.int .i64 1, .int .i64 x, .string ⟨#[]⟩, .slice none 0 0, .slice none 0 0, .slice none 0 0]) (by simp [results, Tryd.results43, go_sem]) rfl ⟨rfl, S1.out⟩
theorem truth_any (S : Sat W w L) (b : Bool) :
    Calls Tryd.prog 67 #[.bool b] w fun e w' => e = .returned (.agg #[.int .i64 2, .int .i64 0, .string (if b then sTrue else sFalse), .slice none 0 0, .slice none 0 0, .slice none 0 0]) ∧ Sat W w' L := by
  have S1 := hid (S.alloc' (.cells #[.int .i64 2, .int .i64 0, .string (if b then sTrue else sFalse), .slice none 0 0, .slice none 0 0, .slice none 0 0] 35))
  clear S
  cases b with
  | true =>
    go_enter Tryd.func67, Tryd.ntmps67
    go_wp2_with fail
    refine bodyPost_ret (v := .agg #[.int .i64 2, .int .i64 0, .string sTrue, .slice none 0 0, .slice none 0 0, .slice none 0 0]) (by simp [results, Tryd.results67, go_sem, sTrue]) rfl ⟨rfl, S1.out⟩
  | false =>
    go_enter Tryd.func67, Tryd.ntmps67
    go_wp2_with fail
    refine bodyPost_ret (v := .agg #[.int .i64 2, .int .i64 0, .string sFalse, .slice none 0 0, .slice none 0 0, .slice none 0 0]) (by simp [results, Tryd.results67, go_sem, sFalse]) rfl ⟨rfl, S1.out⟩
theorem ints_any (S : Sat W w (arch h :: L)) (ts : List T) (hc : CArg h cb n ts) (hb : ts.length ≤ 1000000) :
    Calls Tryd.prog 42 #[.pointer (some ⟨cb, 0, none⟩)] w fun e w' => e = .returned (.bool (ts.all fun t => t.k == 1)) ∧ Sat W w' (arch h :: L) := by
  obtain ⟨a, c, hcb, hl⟩ := hc
  obtain ⟨m, HM⟩ : ∃ m, Hid (ts.length = m) := ⟨_, hid rfl⟩
  rw [HM.out] at hcb hb
  have c1 : World.cell? w ⟨cb, 1, none⟩ = some (.slice a m c) := S.archCell hcb 1
  have HL := hid hl
  have S1 := hid S
  obtain ⟨r, HR⟩ : ∃ r, Hid ((ts.all fun t => t.k == 1) = r) := ⟨_, hid rfl⟩
  rw [HR.out]
  clear hcb hl S
  go_enter Tryd.func42, Tryd.ntmps42
  go_wp2_with fail
  go_loopw [10] (fun iv wr => ∃ i : Nat, i ≤ m ∧ iv = .int .i64 i ∧ Hid (∀ (j : Nat) t, j < i → ts[j]? = some t → t.k = 1) ∧ Hid (Sat W wr (arch h :: L))) (fun iv _ => m - (intOf iv).toNat)
  case atStart => exact ⟨0, Nat.zero_le _, rfl, hid (fun j t hj => by omega), S1⟩
  case round =>
    obtain ⟨i, hi, rfl, HB, S⟩ := hrel
    clear S1 c1
    by_cases hlt : i < m
    · obtain ⟨t, ht⟩ : ∃ t, ts[i]? = some t := ⟨_, List.getElem?_eq_getElem (by have := HM.out; omega)⟩
      obtain ⟨g, off, vs, rfl, hc, hin⟩ := HL.out.get ht
      obtain ⟨ia, ic, ra, rc, ba, bc, rfl, _⟩ := hin.vals
      obtain ⟨k, HK⟩ : ∃ k, Hid (t.k = k) := ⟨_, hid rfl⟩
      have k0 := S.out.cellIn (hc 0 _ rfl)
      have k1 := S.out.cellIn (hc 1 _ rfl)
      have k2 := S.out.cellIn (hc 2 _ rfl)
      have k3 := S.out.cellIn (hc 3 _ rfl)
      have k4 := S.out.cellIn (hc 4 _ rfl)
      have k5 := S.out.cellIn (hc 5 _ rfl)
      rw [Nat.zero_add] at k0 k1 k2 k3 k4 k5
      rw [Nat.add_zero, HK.out] at k0
      have S2 := hid (S.out.alloc' (.cells #[.int .i64 k, .int .i64 t.n, .string t.nm, .slice ia t.is.length ic, .slice ra t.rs.length rc, .slice ba t.bs.length bc] 35))
      have HT := hid ht
      clear hc hin ht
      by_cases hk : k = 1
      · subst hk
        go_wp2_with fail
        go_roundw
        case rel => exact ⟨i + 1, by omega, by go_num, hid (fun j t' hj ht' => by
          by_cases hji : j = i
          · subst hji; rw [HT.out] at ht'; cases ht'; exact HK.out
          · exact HB.out j t' (by omega) ht'), S2⟩
        case measure => simp [intOf]; omega
      · have hr : r = false := by
          rw [← HR.out, List.all_eq_false]
          exact ⟨t, List.mem_of_getElem? HT.out, by rw [HK.out]; simpa using hk⟩
        have HRR := hid hr
        clear hr
        go_wp2_with fail
        go_ret
        exact ⟨by rw [HRR.out]; rfl, S2.out⟩
    · obtain rfl : i = m := by omega
      have hr : r = true := by
        rw [← HR.out, List.all_eq_true]
        intro t ht
        obtain ⟨j, hj⟩ := List.mem_iff_getElem?.1 ht
        have := HB.out j t (by have := (List.getElem?_eq_some_iff.1 hj).1; have := HM.out; omega) hj
        simp [this]
      have HRR := hid hr
      clear hr
      go_wp2_with fail
      go_ret
      exact ⟨by rw [HRR.out]; rfl, S.out⟩
theorem reckon_0 (S : Sat W w (arch h :: L)) (x y : T) (hc : CArg h cb 0 [x, y]) (hx : x.k = 1) (hy : y.k = 1) :
    Calls Tryd.prog 31 #[.pointer (some ⟨cb, 0, none⟩)] w (MethP W L h (some (tN (wrap64 (x.n + y.n))))) := by
  have S1 := hid (S.allocAt (k := w.heap.size) (.cells #[.int .i64 0, .int .i64 0, .string ⟨#[]⟩, .slice none 0 0, .slice none 0 0, .slice none 0 0] 35) rfl).swap
  have HI := hid (ints_any S1.out [x, y] hc (by show 2 ≤ 1000000; decide))
  have hall : ([x, y].all fun t => t.k == 1) = true := by simp [hx, hy]
  rw [hall] at HI
  obtain ⟨a, c, hcb, hl⟩ := hc
  obtain ⟨g, off, vs, rfl, hcx, hix⟩ := hl.get (j := 0) (t := x) rfl
  obtain ⟨g', off', us, hgg, hcy, hiy⟩ := hl.get (j := 1) (t := y) rfl
  cases hgg
  obtain ⟨_, _, _, _, _, _, rfl, _⟩ := hix.vals
  obtain ⟨_, _, _, _, _, _, rfl, _⟩ := hiy.vals
  have hx1 := hcx 1 _ rfl
  have hy1 := hcy 1 _ rfl
  rw [show off + (0 + 0) * 6 + 1 = off + 1 by omega] at hx1
  rw [show off + (0 + 1) * 6 + 1 = off + 6 + 1 by omega] at hy1
  have HCB := hid hcb
  have HX1 := hid hx1
  have HY1 := hid hy1
  clear hcb hl hcx hcy hix hiy hx1 hy1 hx hy hall S S1
  go_enter Tryd.func31, Tryd.ntmps31
  go_wp2_with fail
  refine HI.out.mono ?_
  rintro e w1 ⟨rfl, s1⟩
  have S2 := hid s1
  have c0 : World.cell? w1 ⟨cb, 0, none⟩ = some (.int .i64 0) := s1.archCell HCB.out 0
  have c1 : World.cell? w1 ⟨cb, 1, none⟩ = some (.slice (some ⟨g, off, none⟩) 2 c) := s1.archCell HCB.out 1
  have x1 : World.cell? w1 ⟨g, off + 1, none⟩ = some (.int .i64 x.n) := s1.cellIn HX1.out
  have y1 : World.cell? w1 ⟨g, off + 6 + 1, none⟩ = some (.int .i64 y.n) := s1.cellIn HY1.out
  have y2 : World.cell? w1 ⟨g, off + 7, none⟩ = some (.int .i64 y.n) := s1.cellIn HY1.out
  clear s1 HI

  go_wp2_with fail
  refine (numb_any S2.out _).mono ?_
  rintro e w2 ⟨rfl, s2⟩
  have S3 := hid s2.swap
  have z0 : World.cell? w2 ⟨w.heap.size, 0, none⟩ = some (.int .i64 0) := S3.out.cell 0
  have f0 := S3.out.free 0
  have z1 : World.cell? w2 ⟨w.heap.size, 1, none⟩ = some (.int .i64 0) := S3.out.cell 1
  have f1 := S3.out.free 1
  have z2 : World.cell? w2 ⟨w.heap.size, 2, none⟩ = some (.string ⟨#[]⟩) := S3.out.cell 2
  have f2 := S3.out.free 2
  have z3 : World.cell? w2 ⟨w.heap.size, 3, none⟩ = some (.slice none 0 0) := S3.out.cell 3
  have f3 := S3.out.free 3
  have z4 : World.cell? w2 ⟨w.heap.size, 4, none⟩ = some (.slice none 0 0) := S3.out.cell 4
  have f4 := S3.out.free 4
  have z5 : World.cell? w2 ⟨w.heap.size, 5, none⟩ = some (.slice none 0 0) := S3.out.cell 5
  have f5 := S3.out.free 5
  clear s2 S2 c0 c1 x1 y1 y2
  go_wp2_with fail
  have s7 := ((((((S3.out.set 0 (.int .i64 1)).set 1 (.int .i64 (wrap64 (x.n + y.n)))).set 2 (.string ⟨#[]⟩)).set 3 (.slice none 0 0)).set 4 (.slice none 0 0)).set 5 (.slice none 0 0))
  refine bodyPost_ret (v := .tuple #[.agg #[.int .i64 1, .int .i64 (wrap64 (x.n + y.n)), .string ⟨#[]⟩, .slice none 0 0, .slice none 0 0, .slice none 0 0], .bool true]) (by simp [results, Tryd.results31, go_sem, z0, z1, z2, z3, z4, z5]) rfl ?_
  exact MethP.some' rfl (Le.refl _) s7.drop (in_N _ _)
theorem reckon_1 (S : Sat W w (arch h :: L)) (x y : T) (hc : CArg h cb 1 [x, y]) (hx : x.k = 1) (hy : y.k = 1) :
    Calls Tryd.prog 31 #[.pointer (some ⟨cb, 0, none⟩)] w (MethP W L h (some (tN (wrap64 (x.n - y.n))))) := by
  have S1 := hid (S.allocAt (k := w.heap.size) (.cells #[.int .i64 0, .int .i64 0, .string ⟨#[]⟩, .slice none 0 0, .slice none 0 0, .slice none 0 0] 35) rfl).swap
  have HI := hid (ints_any S1.out [x, y] hc (by show 2 ≤ 1000000; decide))
  have hall : ([x, y].all fun t => t.k == 1) = true := by simp [hx, hy]
  rw [hall] at HI
  obtain ⟨a, c, hcb, hl⟩ := hc
  obtain ⟨g, off, vs, rfl, hcx, hix⟩ := hl.get (j := 0) (t := x) rfl
  obtain ⟨g', off', us, hgg, hcy, hiy⟩ := hl.get (j := 1) (t := y) rfl
  cases hgg
  obtain ⟨_, _, _, _, _, _, rfl, _⟩ := hix.vals
  obtain ⟨_, _, _, _, _, _, rfl, _⟩ := hiy.vals
  have hx1 := hcx 1 _ rfl
  have hy1 := hcy 1 _ rfl
  rw [show off + (0 + 0) * 6 + 1 = off + 1 by omega] at hx1
  rw [show off + (0 + 1) * 6 + 1 = off + 6 + 1 by omega] at hy1
  have HCB := hid hcb
  have HX1 := hid hx1
  have HY1 := hid hy1
  clear hcb hl hcx hcy hix hiy hx1 hy1 hx hy hall S S1
  go_enter Tryd.func31, Tryd.ntmps31
  go_wp2_with fail
  refine HI.out.mono ?_
  rintro e w1 ⟨rfl, s1⟩
  have S2 := hid s1
  have c0 : World.cell? w1 ⟨cb, 0, none⟩ = some (.int .i64 1) := s1.archCell HCB.out 0
  have c1 : World.cell? w1 ⟨cb, 1, none⟩ = some (.slice (some ⟨g, off, none⟩) 2 c) := s1.archCell HCB.out 1
  have x1 : World.cell? w1 ⟨g, off + 1, none⟩ = some (.int .i64 x.n) := s1.cellIn HX1.out
  have y1 : World.cell? w1 ⟨g, off + 6 + 1, none⟩ = some (.int .i64 y.n) := s1.cellIn HY1.out
  have y2 : World.cell? w1 ⟨g, off + 7, none⟩ = some (.int .i64 y.n) := s1.cellIn HY1.out
  clear s1 HI

  go_wp2_with fail
  refine (numb_any S2.out _).mono ?_
  rintro e w2 ⟨rfl, s2⟩
  have S3 := hid s2.swap
  have z0 : World.cell? w2 ⟨w.heap.size, 0, none⟩ = some (.int .i64 0) := S3.out.cell 0
  have f0 := S3.out.free 0
  have z1 : World.cell? w2 ⟨w.heap.size, 1, none⟩ = some (.int .i64 0) := S3.out.cell 1
  have f1 := S3.out.free 1
  have z2 : World.cell? w2 ⟨w.heap.size, 2, none⟩ = some (.string ⟨#[]⟩) := S3.out.cell 2
  have f2 := S3.out.free 2
  have z3 : World.cell? w2 ⟨w.heap.size, 3, none⟩ = some (.slice none 0 0) := S3.out.cell 3
  have f3 := S3.out.free 3
  have z4 : World.cell? w2 ⟨w.heap.size, 4, none⟩ = some (.slice none 0 0) := S3.out.cell 4
  have f4 := S3.out.free 4
  have z5 : World.cell? w2 ⟨w.heap.size, 5, none⟩ = some (.slice none 0 0) := S3.out.cell 5
  have f5 := S3.out.free 5
  clear s2 S2 c0 c1 x1 y1 y2
  go_wp2_with fail
  have s7 := ((((((S3.out.set 0 (.int .i64 1)).set 1 (.int .i64 (wrap64 (x.n - y.n)))).set 2 (.string ⟨#[]⟩)).set 3 (.slice none 0 0)).set 4 (.slice none 0 0)).set 5 (.slice none 0 0))
  refine bodyPost_ret (v := .tuple #[.agg #[.int .i64 1, .int .i64 (wrap64 (x.n - y.n)), .string ⟨#[]⟩, .slice none 0 0, .slice none 0 0, .slice none 0 0], .bool true]) (by simp [results, Tryd.results31, go_sem, z0, z1, z2, z3, z4, z5]) rfl ?_
  exact MethP.some' rfl (Le.refl _) s7.drop (in_N _ _)
theorem reckon_2 (S : Sat W w (arch h :: L)) (x y : T) (hc : CArg h cb 2 [x, y]) (hx : x.k = 1) (hy : y.k = 1) :
    Calls Tryd.prog 31 #[.pointer (some ⟨cb, 0, none⟩)] w (MethP W L h (some (tN (wrap64 (x.n * y.n))))) := by
  have S1 := hid (S.allocAt (k := w.heap.size) (.cells #[.int .i64 0, .int .i64 0, .string ⟨#[]⟩, .slice none 0 0, .slice none 0 0, .slice none 0 0] 35) rfl).swap
  have HI := hid (ints_any S1.out [x, y] hc (by show 2 ≤ 1000000; decide))
  have hall : ([x, y].all fun t => t.k == 1) = true := by simp [hx, hy]
  rw [hall] at HI
  obtain ⟨a, c, hcb, hl⟩ := hc
  obtain ⟨g, off, vs, rfl, hcx, hix⟩ := hl.get (j := 0) (t := x) rfl
  obtain ⟨g', off', us, hgg, hcy, hiy⟩ := hl.get (j := 1) (t := y) rfl
  cases hgg
  obtain ⟨_, _, _, _, _, _, rfl, _⟩ := hix.vals
  obtain ⟨_, _, _, _, _, _, rfl, _⟩ := hiy.vals
  have hx1 := hcx 1 _ rfl
  have hy1 := hcy 1 _ rfl
  rw [show off + (0 + 0) * 6 + 1 = off + 1 by omega] at hx1
  rw [show off + (0 + 1) * 6 + 1 = off + 6 + 1 by omega] at hy1
  have HCB := hid hcb
  have HX1 := hid hx1
  have HY1 := hid hy1
  clear hcb hl hcx hcy hix hiy hx1 hy1 hx hy hall S S1
  go_enter Tryd.func31, Tryd.ntmps31
  go_wp2_with fail
  refine HI.out.mono ?_
  rintro e w1 ⟨rfl, s1⟩
  have S2 := hid s1
  have c0 : World.cell? w1 ⟨cb, 0, none⟩ = some (.int .i64 2) := s1.archCell HCB.out 0
  have c1 : World.cell? w1 ⟨cb, 1, none⟩ = some (.slice (some ⟨g, off, none⟩) 2 c) := s1.archCell HCB.out 1
  have x1 : World.cell? w1 ⟨g, off + 1, none⟩ = some (.int .i64 x.n) := s1.cellIn HX1.out
  have y1 : World.cell? w1 ⟨g, off + 6 + 1, none⟩ = some (.int .i64 y.n) := s1.cellIn HY1.out
  have y2 : World.cell? w1 ⟨g, off + 7, none⟩ = some (.int .i64 y.n) := s1.cellIn HY1.out
  clear s1 HI

  go_wp2_with fail
  refine (numb_any S2.out _).mono ?_
  rintro e w2 ⟨rfl, s2⟩
  have S3 := hid s2.swap
  have z0 : World.cell? w2 ⟨w.heap.size, 0, none⟩ = some (.int .i64 0) := S3.out.cell 0
  have f0 := S3.out.free 0
  have z1 : World.cell? w2 ⟨w.heap.size, 1, none⟩ = some (.int .i64 0) := S3.out.cell 1
  have f1 := S3.out.free 1
  have z2 : World.cell? w2 ⟨w.heap.size, 2, none⟩ = some (.string ⟨#[]⟩) := S3.out.cell 2
  have f2 := S3.out.free 2
  have z3 : World.cell? w2 ⟨w.heap.size, 3, none⟩ = some (.slice none 0 0) := S3.out.cell 3
  have f3 := S3.out.free 3
  have z4 : World.cell? w2 ⟨w.heap.size, 4, none⟩ = some (.slice none 0 0) := S3.out.cell 4
  have f4 := S3.out.free 4
  have z5 : World.cell? w2 ⟨w.heap.size, 5, none⟩ = some (.slice none 0 0) := S3.out.cell 5
  have f5 := S3.out.free 5
  clear s2 S2 c0 c1 x1 y1 y2
  go_wp2_with fail
  have s7 := ((((((S3.out.set 0 (.int .i64 1)).set 1 (.int .i64 (wrap64 (x.n * y.n)))).set 2 (.string ⟨#[]⟩)).set 3 (.slice none 0 0)).set 4 (.slice none 0 0)).set 5 (.slice none 0 0))
  refine bodyPost_ret (v := .tuple #[.agg #[.int .i64 1, .int .i64 (wrap64 (x.n * y.n)), .string ⟨#[]⟩, .slice none 0 0, .slice none 0 0, .slice none 0 0], .bool true]) (by simp [results, Tryd.results31, go_sem, z0, z1, z2, z3, z4, z5]) rfl ?_
  exact MethP.some' rfl (Le.refl _) s7.drop (in_N _ _)
theorem reckon_3 (S : Sat W w (arch h :: L)) (x y : T) (hc : CArg h cb 3 [x, y]) (hx : x.k = 1) (hy : y.k = 1) (h0 : y.n ≠ 0) :
    Calls Tryd.prog 31 #[.pointer (some ⟨cb, 0, none⟩)] w (MethP W L h (some (tN (wrap64 (x.n.tdiv y.n))))) := by
  have S1 := hid (S.allocAt (k := w.heap.size) (.cells #[.int .i64 0, .int .i64 0, .string ⟨#[]⟩, .slice none 0 0, .slice none 0 0, .slice none 0 0] 35) rfl).swap
  have HI := hid (ints_any S1.out [x, y] hc (by show 2 ≤ 1000000; decide))
  have hall : ([x, y].all fun t => t.k == 1) = true := by simp [hx, hy]
  rw [hall] at HI
  obtain ⟨a, c, hcb, hl⟩ := hc
  obtain ⟨g, off, vs, rfl, hcx, hix⟩ := hl.get (j := 0) (t := x) rfl
  obtain ⟨g', off', us, hgg, hcy, hiy⟩ := hl.get (j := 1) (t := y) rfl
  cases hgg
  obtain ⟨_, _, _, _, _, _, rfl, _⟩ := hix.vals
  obtain ⟨_, _, _, _, _, _, rfl, _⟩ := hiy.vals
  have hx1 := hcx 1 _ rfl
  have hy1 := hcy 1 _ rfl
  rw [show off + (0 + 0) * 6 + 1 = off + 1 by omega] at hx1
  rw [show off + (0 + 1) * 6 + 1 = off + 6 + 1 by omega] at hy1
  have HCB := hid hcb
  have HX1 := hid hx1
  have HY1 := hid hy1
  clear hcb hl hcx hcy hix hiy hx1 hy1 hx hy hall S S1
  have h0b : (y.n == 0) = false := by simpa using h0
  go_enter Tryd.func31, Tryd.ntmps31
  go_wp2_with fail
  refine HI.out.mono ?_
  rintro e w1 ⟨rfl, s1⟩
  have S2 := hid s1
  have c0 : World.cell? w1 ⟨cb, 0, none⟩ = some (.int .i64 3) := s1.archCell HCB.out 0
  have c1 : World.cell? w1 ⟨cb, 1, none⟩ = some (.slice (some ⟨g, off, none⟩) 2 c) := s1.archCell HCB.out 1
  have x1 : World.cell? w1 ⟨g, off + 1, none⟩ = some (.int .i64 x.n) := s1.cellIn HX1.out
  have y1 : World.cell? w1 ⟨g, off + 6 + 1, none⟩ = some (.int .i64 y.n) := s1.cellIn HY1.out
  have y2 : World.cell? w1 ⟨g, off + 7, none⟩ = some (.int .i64 y.n) := s1.cellIn HY1.out
  clear s1 HI

  go_wp2_with fail
  refine (numb_any S2.out _).mono ?_
  rintro e w2 ⟨rfl, s2⟩
  have S3 := hid s2.swap
  have z0 : World.cell? w2 ⟨w.heap.size, 0, none⟩ = some (.int .i64 0) := S3.out.cell 0
  have f0 := S3.out.free 0
  have z1 : World.cell? w2 ⟨w.heap.size, 1, none⟩ = some (.int .i64 0) := S3.out.cell 1
  have f1 := S3.out.free 1
  have z2 : World.cell? w2 ⟨w.heap.size, 2, none⟩ = some (.string ⟨#[]⟩) := S3.out.cell 2
  have f2 := S3.out.free 2
  have z3 : World.cell? w2 ⟨w.heap.size, 3, none⟩ = some (.slice none 0 0) := S3.out.cell 3
  have f3 := S3.out.free 3
  have z4 : World.cell? w2 ⟨w.heap.size, 4, none⟩ = some (.slice none 0 0) := S3.out.cell 4
  have f4 := S3.out.free 4
  have z5 : World.cell? w2 ⟨w.heap.size, 5, none⟩ = some (.slice none 0 0) := S3.out.cell 5
  have f5 := S3.out.free 5
  clear s2 S2 c0 c1 x1 y1 y2
  go_wp2_with fail
  have s7 := ((((((S3.out.set 0 (.int .i64 1)).set 1 (.int .i64 (wrap64 (x.n.tdiv y.n)))).set 2 (.string ⟨#[]⟩)).set 3 (.slice none 0 0)).set 4 (.slice none 0 0)).set 5 (.slice none 0 0))
  refine bodyPost_ret (v := .tuple #[.agg #[.int .i64 1, .int .i64 (wrap64 (x.n.tdiv y.n)), .string ⟨#[]⟩, .slice none 0 0, .slice none 0 0, .slice none 0 0], .bool true]) (by simp [results, Tryd.results31, go_sem, z0, z1, z2, z3, z4, z5]) rfl ?_
  exact MethP.some' rfl (Le.refl _) s7.drop (in_N _ _)
theorem reckon_4 (S : Sat W w (arch h :: L)) (x y : T) (hc : CArg h cb 4 [x, y]) (hx : x.k = 1) (hy : y.k = 1) (h0 : y.n ≠ 0) :
    Calls Tryd.prog 31 #[.pointer (some ⟨cb, 0, none⟩)] w (MethP W L h (some (tN (x.n.tmod y.n)))) := by
  have S1 := hid (S.allocAt (k := w.heap.size) (.cells #[.int .i64 0, .int .i64 0, .string ⟨#[]⟩, .slice none 0 0, .slice none 0 0, .slice none 0 0] 35) rfl).swap
  have HI := hid (ints_any S1.out [x, y] hc (by show 2 ≤ 1000000; decide))
  have hall : ([x, y].all fun t => t.k == 1) = true := by simp [hx, hy]
  rw [hall] at HI
  obtain ⟨a, c, hcb, hl⟩ := hc
  obtain ⟨g, off, vs, rfl, hcx, hix⟩ := hl.get (j := 0) (t := x) rfl
  obtain ⟨g', off', us, hgg, hcy, hiy⟩ := hl.get (j := 1) (t := y) rfl
  cases hgg
  obtain ⟨_, _, _, _, _, _, rfl, _⟩ := hix.vals
  obtain ⟨_, _, _, _, _, _, rfl, _⟩ := hiy.vals
  have hx1 := hcx 1 _ rfl
  have hy1 := hcy 1 _ rfl
  rw [show off + (0 + 0) * 6 + 1 = off + 1 by omega] at hx1
  rw [show off + (0 + 1) * 6 + 1 = off + 6 + 1 by omega] at hy1
  have HCB := hid hcb
  have HX1 := hid hx1
  have HY1 := hid hy1
  clear hcb hl hcx hcy hix hiy hx1 hy1 hx hy hall S S1
  have h0b : (y.n == 0) = false := by simpa using h0
  go_enter Tryd.func31, Tryd.ntmps31
  go_wp2_with fail
  refine HI.out.mono ?_
  rintro e w1 ⟨rfl, s1⟩
  have S2 := hid s1
  have c0 : World.cell? w1 ⟨cb, 0, none⟩ = some (.int .i64 4) := s1.archCell HCB.out 0
  have c1 : World.cell? w1 ⟨cb, 1, none⟩ = some (.slice (some ⟨g, off, none⟩) 2 c) := s1.archCell HCB.out 1
  have x1 : World.cell? w1 ⟨g, off + 1, none⟩ = some (.int .i64 x.n) := s1.cellIn HX1.out
  have y1 : World.cell? w1 ⟨g, off + 6 + 1, none⟩ = some (.int .i64 y.n) := s1.cellIn HY1.out
  have y2 : World.cell? w1 ⟨g, off + 7, none⟩ = some (.int .i64 y.n) := s1.cellIn HY1.out
  clear s1 HI

  go_wp2_with fail
  refine (numb_any S2.out _).mono ?_
  rintro e w2 ⟨rfl, s2⟩
  have S3 := hid s2.swap
  have z0 : World.cell? w2 ⟨w.heap.size, 0, none⟩ = some (.int .i64 0) := S3.out.cell 0
  have f0 := S3.out.free 0
  have z1 : World.cell? w2 ⟨w.heap.size, 1, none⟩ = some (.int .i64 0) := S3.out.cell 1
  have f1 := S3.out.free 1
  have z2 : World.cell? w2 ⟨w.heap.size, 2, none⟩ = some (.string ⟨#[]⟩) := S3.out.cell 2
  have f2 := S3.out.free 2
  have z3 : World.cell? w2 ⟨w.heap.size, 3, none⟩ = some (.slice none 0 0) := S3.out.cell 3
  have f3 := S3.out.free 3
  have z4 : World.cell? w2 ⟨w.heap.size, 4, none⟩ = some (.slice none 0 0) := S3.out.cell 4
  have f4 := S3.out.free 4
  have z5 : World.cell? w2 ⟨w.heap.size, 5, none⟩ = some (.slice none 0 0) := S3.out.cell 5
  have f5 := S3.out.free 5
  clear s2 S2 c0 c1 x1 y1 y2
  go_wp2_with fail
  have s7 := ((((((S3.out.set 0 (.int .i64 1)).set 1 (.int .i64 (x.n.tmod y.n))).set 2 (.string ⟨#[]⟩)).set 3 (.slice none 0 0)).set 4 (.slice none 0 0)).set 5 (.slice none 0 0))
  refine bodyPost_ret (v := .tuple #[.agg #[.int .i64 1, .int .i64 (x.n.tmod y.n), .string ⟨#[]⟩, .slice none 0 0, .slice none 0 0, .slice none 0 0], .bool true]) (by simp [results, Tryd.results31, go_sem, z0, z1, z2, z3, z4, z5]) rfl ?_
  exact MethP.some' rfl (Le.refl _) s7.drop (in_N _ _)
theorem reckon_3_bad (S : Sat W w (arch h :: L)) (x y : T) (hc : CArg h cb 3 [x, y]) (hx : x.k = 1) (hy : y.k = 1) (h0 : y.n = 0) :
    Calls Tryd.prog 31 #[.pointer (some ⟨cb, 0, none⟩)] w (MethP W L h none) := by
  have S1 := hid (S.allocAt (k := w.heap.size) (.cells #[.int .i64 0, .int .i64 0, .string ⟨#[]⟩, .slice none 0 0, .slice none 0 0, .slice none 0 0] 35) rfl).swap
  have HI := hid (ints_any S1.out [x, y] hc (by show 2 ≤ 1000000; decide))
  have hall : ([x, y].all fun t => t.k == 1) = true := by simp [hx, hy]
  rw [hall] at HI
  obtain ⟨a, c, hcb, hl⟩ := hc
  obtain ⟨g, off, vs, rfl, hcx, hix⟩ := hl.get (j := 0) (t := x) rfl
  obtain ⟨g', off', us, hgg, hcy, hiy⟩ := hl.get (j := 1) (t := y) rfl
  cases hgg
  obtain ⟨_, _, _, _, _, _, rfl, _⟩ := hix.vals
  obtain ⟨_, _, _, _, _, _, rfl, _⟩ := hiy.vals
  have hx1 := hcx 1 _ rfl
  have hy1 := hcy 1 _ rfl
  rw [show off + (0 + 0) * 6 + 1 = off + 1 by omega] at hx1
  rw [show off + (0 + 1) * 6 + 1 = off + 6 + 1 by omega] at hy1
  have HCB := hid hcb
  have HX1 := hid hx1
  have HY1 := hid hy1
  clear hcb hl hcx hcy hix hiy hx1 hy1 hx hy hall S S1
  rw [h0] at HY1
  go_enter Tryd.func31, Tryd.ntmps31
  go_wp2_with fail
  refine HI.out.mono ?_
  rintro e w1 ⟨rfl, s1⟩
  have S2 := hid s1
  have c0 : World.cell? w1 ⟨cb, 0, none⟩ = some (.int .i64 3) := s1.archCell HCB.out 0
  have c1 : World.cell? w1 ⟨cb, 1, none⟩ = some (.slice (some ⟨g, off, none⟩) 2 c) := s1.archCell HCB.out 1
  have x1 : World.cell? w1 ⟨g, off + 1, none⟩ = some (.int .i64 x.n) := s1.cellIn HX1.out
  have y1 : World.cell? w1 ⟨g, off + 6 + 1, none⟩ = some (.int .i64 0) := s1.cellIn HY1.out
  have y2 : World.cell? w1 ⟨g, off + 7, none⟩ = some (.int .i64 0) := s1.cellIn HY1.out
  clear s1 HI

  have S3 := hid S2.out.swap
  have z0 : World.cell? w1 ⟨w.heap.size, 0, none⟩ = some (.int .i64 0) := S3.out.cell 0
  have f0 := S3.out.free 0
  have z1 : World.cell? w1 ⟨w.heap.size, 1, none⟩ = some (.int .i64 0) := S3.out.cell 1
  have f1 := S3.out.free 1
  have z2 : World.cell? w1 ⟨w.heap.size, 2, none⟩ = some (.string ⟨#[]⟩) := S3.out.cell 2
  have f2 := S3.out.free 2
  have z3 : World.cell? w1 ⟨w.heap.size, 3, none⟩ = some (.slice none 0 0) := S3.out.cell 3
  have f3 := S3.out.free 3
  have z4 : World.cell? w1 ⟨w.heap.size, 4, none⟩ = some (.slice none 0 0) := S3.out.cell 4
  have f4 := S3.out.free 4
  have z5 : World.cell? w1 ⟨w.heap.size, 5, none⟩ = some (.slice none 0 0) := S3.out.cell 5
  have f5 := S3.out.free 5
  go_wp2_with fail
  have s7 := ((((((S3.out.set 0 (.int .i64 0)).set 1 (.int .i64 0)).set 2 (.string ⟨#[]⟩)).set 3 (.slice none 0 0)).set 4 (.slice none 0 0)).set 5 (.slice none 0 0))
  refine bodyPost_ret (v := .tuple #[.agg #[.int .i64 0, .int .i64 0, .string ⟨#[]⟩, .slice none 0 0, .slice none 0 0, .slice none 0 0], .bool false]) (by simp [results, Tryd.results31, go_sem, z0, z1, z2, z3, z4, z5]) rfl ?_
  exact MethP.none' rfl (Le.refl _) s7.drop (in_Z0 _)
theorem reckon_4_bad (S : Sat W w (arch h :: L)) (x y : T) (hc : CArg h cb 4 [x, y]) (hx : x.k = 1) (hy : y.k = 1) (h0 : y.n = 0) :
    Calls Tryd.prog 31 #[.pointer (some ⟨cb, 0, none⟩)] w (MethP W L h none) := by
  have S1 := hid (S.allocAt (k := w.heap.size) (.cells #[.int .i64 0, .int .i64 0, .string ⟨#[]⟩, .slice none 0 0, .slice none 0 0, .slice none 0 0] 35) rfl).swap
  have HI := hid (ints_any S1.out [x, y] hc (by show 2 ≤ 1000000; decide))
  have hall : ([x, y].all fun t => t.k == 1) = true := by simp [hx, hy]
  rw [hall] at HI
  obtain ⟨a, c, hcb, hl⟩ := hc
  obtain ⟨g, off, vs, rfl, hcx, hix⟩ := hl.get (j := 0) (t := x) rfl
  obtain ⟨g', off', us, hgg, hcy, hiy⟩ := hl.get (j := 1) (t := y) rfl
  cases hgg
  obtain ⟨_, _, _, _, _, _, rfl, _⟩ := hix.vals
  obtain ⟨_, _, _, _, _, _, rfl, _⟩ := hiy.vals
  have hx1 := hcx 1 _ rfl
  have hy1 := hcy 1 _ rfl
  rw [show off + (0 + 0) * 6 + 1 = off + 1 by omega] at hx1
  rw [show off + (0 + 1) * 6 + 1 = off + 6 + 1 by omega] at hy1
  have HCB := hid hcb
  have HX1 := hid hx1
  have HY1 := hid hy1
  clear hcb hl hcx hcy hix hiy hx1 hy1 hx hy hall S S1
  rw [h0] at HY1
  go_enter Tryd.func31, Tryd.ntmps31
  go_wp2_with fail
  refine HI.out.mono ?_
  rintro e w1 ⟨rfl, s1⟩
  have S2 := hid s1
  have c0 : World.cell? w1 ⟨cb, 0, none⟩ = some (.int .i64 4) := s1.archCell HCB.out 0
  have c1 : World.cell? w1 ⟨cb, 1, none⟩ = some (.slice (some ⟨g, off, none⟩) 2 c) := s1.archCell HCB.out 1
  have x1 : World.cell? w1 ⟨g, off + 1, none⟩ = some (.int .i64 x.n) := s1.cellIn HX1.out
  have y1 : World.cell? w1 ⟨g, off + 6 + 1, none⟩ = some (.int .i64 0) := s1.cellIn HY1.out
  have y2 : World.cell? w1 ⟨g, off + 7, none⟩ = some (.int .i64 0) := s1.cellIn HY1.out
  clear s1 HI

  have S3 := hid S2.out.swap
  have z0 : World.cell? w1 ⟨w.heap.size, 0, none⟩ = some (.int .i64 0) := S3.out.cell 0
  have f0 := S3.out.free 0
  have z1 : World.cell? w1 ⟨w.heap.size, 1, none⟩ = some (.int .i64 0) := S3.out.cell 1
  have f1 := S3.out.free 1
  have z2 : World.cell? w1 ⟨w.heap.size, 2, none⟩ = some (.string ⟨#[]⟩) := S3.out.cell 2
  have f2 := S3.out.free 2
  have z3 : World.cell? w1 ⟨w.heap.size, 3, none⟩ = some (.slice none 0 0) := S3.out.cell 3
  have f3 := S3.out.free 3
  have z4 : World.cell? w1 ⟨w.heap.size, 4, none⟩ = some (.slice none 0 0) := S3.out.cell 4
  have f4 := S3.out.free 4
  have z5 : World.cell? w1 ⟨w.heap.size, 5, none⟩ = some (.slice none 0 0) := S3.out.cell 5
  have f5 := S3.out.free 5
  go_wp2_with fail
  have s7 := ((((((S3.out.set 0 (.int .i64 0)).set 1 (.int .i64 0)).set 2 (.string ⟨#[]⟩)).set 3 (.slice none 0 0)).set 4 (.slice none 0 0)).set 5 (.slice none 0 0))
  refine bodyPost_ret (v := .tuple #[.agg #[.int .i64 0, .int .i64 0, .string ⟨#[]⟩, .slice none 0 0, .slice none 0 0, .slice none 0 0], .bool false]) (by simp [results, Tryd.results31, go_sem, z0, z1, z2, z3, z4, z5]) rfl ?_
  exact MethP.none' rfl (Le.refl _) s7.drop (in_Z0 _)
theorem reckon_6 (S : Sat W w (arch h :: L)) (x y : T) (hc : CArg h cb 6 [x, y]) (hx : x.k = 1) (hy : y.k = 1) :
    Calls Tryd.prog 31 #[.pointer (some ⟨cb, 0, none⟩)] w (MethP W L h (some (tN (bits BinOp.and IntKind.i64 x.n y.n)))) := by
  have S1 := hid (S.allocAt (k := w.heap.size) (.cells #[.int .i64 0, .int .i64 0, .string ⟨#[]⟩, .slice none 0 0, .slice none 0 0, .slice none 0 0] 35) rfl).swap
  have HI := hid (ints_any S1.out [x, y] hc (by show 2 ≤ 1000000; decide))
  have hall : ([x, y].all fun t => t.k == 1) = true := by simp [hx, hy]
  rw [hall] at HI
  obtain ⟨a, c, hcb, hl⟩ := hc
  obtain ⟨g, off, vs, rfl, hcx, hix⟩ := hl.get (j := 0) (t := x) rfl
  obtain ⟨g', off', us, hgg, hcy, hiy⟩ := hl.get (j := 1) (t := y) rfl
  cases hgg
  obtain ⟨_, _, _, _, _, _, rfl, _⟩ := hix.vals
  obtain ⟨_, _, _, _, _, _, rfl, _⟩ := hiy.vals
  have hx1 := hcx 1 _ rfl
  have hy1 := hcy 1 _ rfl
  rw [show off + (0 + 0) * 6 + 1 = off + 1 by omega] at hx1
  rw [show off + (0 + 1) * 6 + 1 = off + 6 + 1 by omega] at hy1
  have HCB := hid hcb
  have HX1 := hid hx1
  have HY1 := hid hy1
  clear hcb hl hcx hcy hix hiy hx1 hy1 hx hy hall S S1
  go_enter Tryd.func31, Tryd.ntmps31
  go_wp2_with fail
  refine HI.out.mono ?_
  rintro e w1 ⟨rfl, s1⟩
  have S2 := hid s1
  have c0 : World.cell? w1 ⟨cb, 0, none⟩ = some (.int .i64 6) := s1.archCell HCB.out 0
  have c1 : World.cell? w1 ⟨cb, 1, none⟩ = some (.slice (some ⟨g, off, none⟩) 2 c) := s1.archCell HCB.out 1
  have x1 : World.cell? w1 ⟨g, off + 1, none⟩ = some (.int .i64 x.n) := s1.cellIn HX1.out
  have y1 : World.cell? w1 ⟨g, off + 6 + 1, none⟩ = some (.int .i64 y.n) := s1.cellIn HY1.out
  have y2 : World.cell? w1 ⟨g, off + 7, none⟩ = some (.int .i64 y.n) := s1.cellIn HY1.out
  clear s1 HI

  go_wp2_with fail
  refine (numb_any S2.out _).mono ?_
  rintro e w2 ⟨rfl, s2⟩
  have S3 := hid s2.swap
  have z0 : World.cell? w2 ⟨w.heap.size, 0, none⟩ = some (.int .i64 0) := S3.out.cell 0
  have f0 := S3.out.free 0
  have z1 : World.cell? w2 ⟨w.heap.size, 1, none⟩ = some (.int .i64 0) := S3.out.cell 1
  have f1 := S3.out.free 1
  have z2 : World.cell? w2 ⟨w.heap.size, 2, none⟩ = some (.string ⟨#[]⟩) := S3.out.cell 2
  have f2 := S3.out.free 2
  have z3 : World.cell? w2 ⟨w.heap.size, 3, none⟩ = some (.slice none 0 0) := S3.out.cell 3
  have f3 := S3.out.free 3
  have z4 : World.cell? w2 ⟨w.heap.size, 4, none⟩ = some (.slice none 0 0) := S3.out.cell 4
  have f4 := S3.out.free 4
  have z5 : World.cell? w2 ⟨w.heap.size, 5, none⟩ = some (.slice none 0 0) := S3.out.cell 5
  have f5 := S3.out.free 5
  clear s2 S2 c0 c1 x1 y1 y2
  go_wp2_with fail
  have s7 := ((((((S3.out.set 0 (.int .i64 1)).set 1 (.int .i64 (bits BinOp.and IntKind.i64 x.n y.n))).set 2 (.string ⟨#[]⟩)).set 3 (.slice none 0 0)).set 4 (.slice none 0 0)).set 5 (.slice none 0 0))
  refine bodyPost_ret (v := .tuple #[.agg #[.int .i64 1, .int .i64 (bits BinOp.and IntKind.i64 x.n y.n), .string ⟨#[]⟩, .slice none 0 0, .slice none 0 0, .slice none 0 0], .bool true]) (by simp [results, Tryd.results31, go_sem, z0, z1, z2, z3, z4, z5]) rfl ?_
  exact MethP.some' rfl (Le.refl _) s7.drop (in_N _ _)
theorem reckon_7 (S : Sat W w (arch h :: L)) (x y : T) (hc : CArg h cb 7 [x, y]) (hx : x.k = 1) (hy : y.k = 1) :
    Calls Tryd.prog 31 #[.pointer (some ⟨cb, 0, none⟩)] w (MethP W L h (some (tN (bits BinOp.or IntKind.i64 x.n y.n)))) := by
  have S1 := hid (S.allocAt (k := w.heap.size) (.cells #[.int .i64 0, .int .i64 0, .string ⟨#[]⟩, .slice none 0 0, .slice none 0 0, .slice none 0 0] 35) rfl).swap
  have HI := hid (ints_any S1.out [x, y] hc (by show 2 ≤ 1000000; decide))
  have hall : ([x, y].all fun t => t.k == 1) = true := by simp [hx, hy]
  rw [hall] at HI
  obtain ⟨a, c, hcb, hl⟩ := hc
  obtain ⟨g, off, vs, rfl, hcx, hix⟩ := hl.get (j := 0) (t := x) rfl
  obtain ⟨g', off', us, hgg, hcy, hiy⟩ := hl.get (j := 1) (t := y) rfl
  cases hgg
  obtain ⟨_, _, _, _, _, _, rfl, _⟩ := hix.vals
  obtain ⟨_, _, _, _, _, _, rfl, _⟩ := hiy.vals
  have hx1 := hcx 1 _ rfl
  have hy1 := hcy 1 _ rfl
  rw [show off + (0 + 0) * 6 + 1 = off + 1 by omega] at hx1
  rw [show off + (0 + 1) * 6 + 1 = off + 6 + 1 by omega] at hy1
  have HCB := hid hcb
  have HX1 := hid hx1
  have HY1 := hid hy1
  clear hcb hl hcx hcy hix hiy hx1 hy1 hx hy hall S S1
  go_enter Tryd.func31, Tryd.ntmps31
  go_wp2_with fail
  refine HI.out.mono ?_
  rintro e w1 ⟨rfl, s1⟩
  have S2 := hid s1
  have c0 : World.cell? w1 ⟨cb, 0, none⟩ = some (.int .i64 7) := s1.archCell HCB.out 0
  have c1 : World.cell? w1 ⟨cb, 1, none⟩ = some (.slice (some ⟨g, off, none⟩) 2 c) := s1.archCell HCB.out 1
  have x1 : World.cell? w1 ⟨g, off + 1, none⟩ = some (.int .i64 x.n) := s1.cellIn HX1.out
  have y1 : World.cell? w1 ⟨g, off + 6 + 1, none⟩ = some (.int .i64 y.n) := s1.cellIn HY1.out
  have y2 : World.cell? w1 ⟨g, off + 7, none⟩ = some (.int .i64 y.n) := s1.cellIn HY1.out
  clear s1 HI

  go_wp2_with fail
  refine (numb_any S2.out _).mono ?_
  rintro e w2 ⟨rfl, s2⟩
  have S3 := hid s2.swap
  have z0 : World.cell? w2 ⟨w.heap.size, 0, none⟩ = some (.int .i64 0) := S3.out.cell 0
  have f0 := S3.out.free 0
  have z1 : World.cell? w2 ⟨w.heap.size, 1, none⟩ = some (.int .i64 0) := S3.out.cell 1
  have f1 := S3.out.free 1
  have z2 : World.cell? w2 ⟨w.heap.size, 2, none⟩ = some (.string ⟨#[]⟩) := S3.out.cell 2
  have f2 := S3.out.free 2
  have z3 : World.cell? w2 ⟨w.heap.size, 3, none⟩ = some (.slice none 0 0) := S3.out.cell 3
  have f3 := S3.out.free 3
  have z4 : World.cell? w2 ⟨w.heap.size, 4, none⟩ = some (.slice none 0 0) := S3.out.cell 4
  have f4 := S3.out.free 4
  have z5 : World.cell? w2 ⟨w.heap.size, 5, none⟩ = some (.slice none 0 0) := S3.out.cell 5
  have f5 := S3.out.free 5
  clear s2 S2 c0 c1 x1 y1 y2
  go_wp2_with fail
  have s7 := ((((((S3.out.set 0 (.int .i64 1)).set 1 (.int .i64 (bits BinOp.or IntKind.i64 x.n y.n))).set 2 (.string ⟨#[]⟩)).set 3 (.slice none 0 0)).set 4 (.slice none 0 0)).set 5 (.slice none 0 0))
  refine bodyPost_ret (v := .tuple #[.agg #[.int .i64 1, .int .i64 (bits BinOp.or IntKind.i64 x.n y.n), .string ⟨#[]⟩, .slice none 0 0, .slice none 0 0, .slice none 0 0], .bool true]) (by simp [results, Tryd.results31, go_sem, z0, z1, z2, z3, z4, z5]) rfl ?_
  exact MethP.some' rfl (Le.refl _) s7.drop (in_N _ _)
theorem reckon_8 (S : Sat W w (arch h :: L)) (x y : T) (hc : CArg h cb 8 [x, y]) (hx : x.k = 1) (hy : y.k = 1) :
    Calls Tryd.prog 31 #[.pointer (some ⟨cb, 0, none⟩)] w (MethP W L h (some (tN (bits BinOp.xor IntKind.i64 x.n y.n)))) := by
  have S1 := hid (S.allocAt (k := w.heap.size) (.cells #[.int .i64 0, .int .i64 0, .string ⟨#[]⟩, .slice none 0 0, .slice none 0 0, .slice none 0 0] 35) rfl).swap
  have HI := hid (ints_any S1.out [x, y] hc (by show 2 ≤ 1000000; decide))
  have hall : ([x, y].all fun t => t.k == 1) = true := by simp [hx, hy]
  rw [hall] at HI
  obtain ⟨a, c, hcb, hl⟩ := hc
  obtain ⟨g, off, vs, rfl, hcx, hix⟩ := hl.get (j := 0) (t := x) rfl
  obtain ⟨g', off', us, hgg, hcy, hiy⟩ := hl.get (j := 1) (t := y) rfl
  cases hgg
  obtain ⟨_, _, _, _, _, _, rfl, _⟩ := hix.vals
  obtain ⟨_, _, _, _, _, _, rfl, _⟩ := hiy.vals
  have hx1 := hcx 1 _ rfl
  have hy1 := hcy 1 _ rfl
  rw [show off + (0 + 0) * 6 + 1 = off + 1 by omega] at hx1
  rw [show off + (0 + 1) * 6 + 1 = off + 6 + 1 by omega] at hy1
  have HCB := hid hcb
  have HX1 := hid hx1
  have HY1 := hid hy1
  clear hcb hl hcx hcy hix hiy hx1 hy1 hx hy hall S S1
  go_enter Tryd.func31, Tryd.ntmps31
  go_wp2_with fail
  refine HI.out.mono ?_
  rintro e w1 ⟨rfl, s1⟩
  have S2 := hid s1
  have c0 : World.cell? w1 ⟨cb, 0, none⟩ = some (.int .i64 8) := s1.archCell HCB.out 0
  have c1 : World.cell? w1 ⟨cb, 1, none⟩ = some (.slice (some ⟨g, off, none⟩) 2 c) := s1.archCell HCB.out 1
  have x1 : World.cell? w1 ⟨g, off + 1, none⟩ = some (.int .i64 x.n) := s1.cellIn HX1.out
  have y1 : World.cell? w1 ⟨g, off + 6 + 1, none⟩ = some (.int .i64 y.n) := s1.cellIn HY1.out
  have y2 : World.cell? w1 ⟨g, off + 7, none⟩ = some (.int .i64 y.n) := s1.cellIn HY1.out
  clear s1 HI

  go_wp2_with fail
  refine (numb_any S2.out _).mono ?_
  rintro e w2 ⟨rfl, s2⟩
  have S3 := hid s2.swap
  have z0 : World.cell? w2 ⟨w.heap.size, 0, none⟩ = some (.int .i64 0) := S3.out.cell 0
  have f0 := S3.out.free 0
  have z1 : World.cell? w2 ⟨w.heap.size, 1, none⟩ = some (.int .i64 0) := S3.out.cell 1
  have f1 := S3.out.free 1
  have z2 : World.cell? w2 ⟨w.heap.size, 2, none⟩ = some (.string ⟨#[]⟩) := S3.out.cell 2
  have f2 := S3.out.free 2
  have z3 : World.cell? w2 ⟨w.heap.size, 3, none⟩ = some (.slice none 0 0) := S3.out.cell 3
  have f3 := S3.out.free 3
  have z4 : World.cell? w2 ⟨w.heap.size, 4, none⟩ = some (.slice none 0 0) := S3.out.cell 4
  have f4 := S3.out.free 4
  have z5 : World.cell? w2 ⟨w.heap.size, 5, none⟩ = some (.slice none 0 0) := S3.out.cell 5
  have f5 := S3.out.free 5
  clear s2 S2 c0 c1 x1 y1 y2
  go_wp2_with fail
  have s7 := ((((((S3.out.set 0 (.int .i64 1)).set 1 (.int .i64 (bits BinOp.xor IntKind.i64 x.n y.n))).set 2 (.string ⟨#[]⟩)).set 3 (.slice none 0 0)).set 4 (.slice none 0 0)).set 5 (.slice none 0 0))
  refine bodyPost_ret (v := .tuple #[.agg #[.int .i64 1, .int .i64 (bits BinOp.xor IntKind.i64 x.n y.n), .string ⟨#[]⟩, .slice none 0 0, .slice none 0 0, .slice none 0 0], .bool true]) (by simp [results, Tryd.results31, go_sem, z0, z1, z2, z3, z4, z5]) rfl ?_
  exact MethP.some' rfl (Le.refl _) s7.drop (in_N _ _)
theorem reckon_9 (S : Sat W w (arch h :: L)) (x y : T) (hc : CArg h cb 9 [x, y]) (hx : x.k = 1) (hy : y.k = 1) (h0 : 0 ≤ y.n) (h63 : y.n ≤ 63) :
    Calls Tryd.prog 31 #[.pointer (some ⟨cb, 0, none⟩)] w (MethP W L h (some (tN (wrap64 (x.n * 2 ^ y.n.toNat))))) := by
  have S1 := hid (S.allocAt (k := w.heap.size) (.cells #[.int .i64 0, .int .i64 0, .string ⟨#[]⟩, .slice none 0 0, .slice none 0 0, .slice none 0 0] 35) rfl).swap
  have HI := hid (ints_any S1.out [x, y] hc (by show 2 ≤ 1000000; decide))
  have hall : ([x, y].all fun t => t.k == 1) = true := by simp [hx, hy]
  rw [hall] at HI
  obtain ⟨a, c, hcb, hl⟩ := hc
  obtain ⟨g, off, vs, rfl, hcx, hix⟩ := hl.get (j := 0) (t := x) rfl
  obtain ⟨g', off', us, hgg, hcy, hiy⟩ := hl.get (j := 1) (t := y) rfl
  cases hgg
  obtain ⟨_, _, _, _, _, _, rfl, _⟩ := hix.vals
  obtain ⟨_, _, _, _, _, _, rfl, _⟩ := hiy.vals
  have hx1 := hcx 1 _ rfl
  have hy1 := hcy 1 _ rfl
  rw [show off + (0 + 0) * 6 + 1 = off + 1 by omega] at hx1
  rw [show off + (0 + 1) * 6 + 1 = off + 6 + 1 by omega] at hy1
  have HCB := hid hcb
  have HX1 := hid hx1
  have HY1 := hid hy1
  clear hcb hl hcx hcy hix hiy hx1 hy1 hx hy hall S S1
  have h0b : ¬ y.n < 0 := by omega
  have h63b : ¬ y.n > 63 := by omega
  go_enter Tryd.func31, Tryd.ntmps31
  go_wp2_with fail
  refine HI.out.mono ?_
  rintro e w1 ⟨rfl, s1⟩
  have S2 := hid s1
  have c0 : World.cell? w1 ⟨cb, 0, none⟩ = some (.int .i64 9) := s1.archCell HCB.out 0
  have c1 : World.cell? w1 ⟨cb, 1, none⟩ = some (.slice (some ⟨g, off, none⟩) 2 c) := s1.archCell HCB.out 1
  have x1 : World.cell? w1 ⟨g, off + 1, none⟩ = some (.int .i64 x.n) := s1.cellIn HX1.out
  have y1 : World.cell? w1 ⟨g, off + 6 + 1, none⟩ = some (.int .i64 y.n) := s1.cellIn HY1.out
  have y2 : World.cell? w1 ⟨g, off + 7, none⟩ = some (.int .i64 y.n) := s1.cellIn HY1.out
  clear s1 HI

  go_wp2_with fail
  refine (numb_any S2.out _).mono ?_
  rintro e w2 ⟨rfl, s2⟩
  have S3 := hid s2.swap
  have z0 : World.cell? w2 ⟨w.heap.size, 0, none⟩ = some (.int .i64 0) := S3.out.cell 0
  have f0 := S3.out.free 0
  have z1 : World.cell? w2 ⟨w.heap.size, 1, none⟩ = some (.int .i64 0) := S3.out.cell 1
  have f1 := S3.out.free 1
  have z2 : World.cell? w2 ⟨w.heap.size, 2, none⟩ = some (.string ⟨#[]⟩) := S3.out.cell 2
  have f2 := S3.out.free 2
  have z3 : World.cell? w2 ⟨w.heap.size, 3, none⟩ = some (.slice none 0 0) := S3.out.cell 3
  have f3 := S3.out.free 3
  have z4 : World.cell? w2 ⟨w.heap.size, 4, none⟩ = some (.slice none 0 0) := S3.out.cell 4
  have f4 := S3.out.free 4
  have z5 : World.cell? w2 ⟨w.heap.size, 5, none⟩ = some (.slice none 0 0) := S3.out.cell 5
  have f5 := S3.out.free 5
  clear s2 S2 c0 c1 x1 y1 y2
  go_wp2_with fail
  have s7 := ((((((S3.out.set 0 (.int .i64 1)).set 1 (.int .i64 (wrap64 (x.n * 2 ^ y.n.toNat)))).set 2 (.string ⟨#[]⟩)).set 3 (.slice none 0 0)).set 4 (.slice none 0 0)).set 5 (.slice none 0 0))
  refine bodyPost_ret (v := .tuple #[.agg #[.int .i64 1, .int .i64 (wrap64 (x.n * 2 ^ y.n.toNat)), .string ⟨#[]⟩, .slice none 0 0, .slice none 0 0, .slice none 0 0], .bool true]) (by simp [results, Tryd.results31, go_sem, z0, z1, z2, z3, z4, z5]) rfl ?_
  exact MethP.some' rfl (Le.refl _) s7.drop (in_N _ _)
theorem reckon_10 (S : Sat W w (arch h :: L)) (x y : T) (hc : CArg h cb 10 [x, y]) (hx : x.k = 1) (hy : y.k = 1) (h0 : 0 ≤ y.n) (h63 : y.n ≤ 63) :
    Calls Tryd.prog 31 #[.pointer (some ⟨cb, 0, none⟩)] w (MethP W L h (some (tN (x.n / 2 ^ y.n.toNat)))) := by
  have S1 := hid (S.allocAt (k := w.heap.size) (.cells #[.int .i64 0, .int .i64 0, .string ⟨#[]⟩, .slice none 0 0, .slice none 0 0, .slice none 0 0] 35) rfl).swap
  have HI := hid (ints_any S1.out [x, y] hc (by show 2 ≤ 1000000; decide))
  have hall : ([x, y].all fun t => t.k == 1) = true := by simp [hx, hy]
  rw [hall] at HI
  obtain ⟨a, c, hcb, hl⟩ := hc
  obtain ⟨g, off, vs, rfl, hcx, hix⟩ := hl.get (j := 0) (t := x) rfl
  obtain ⟨g', off', us, hgg, hcy, hiy⟩ := hl.get (j := 1) (t := y) rfl
  cases hgg
  obtain ⟨_, _, _, _, _, _, rfl, _⟩ := hix.vals
  obtain ⟨_, _, _, _, _, _, rfl, _⟩ := hiy.vals
  have hx1 := hcx 1 _ rfl
  have hy1 := hcy 1 _ rfl
  rw [show off + (0 + 0) * 6 + 1 = off + 1 by omega] at hx1
  rw [show off + (0 + 1) * 6 + 1 = off + 6 + 1 by omega] at hy1
  have HCB := hid hcb
  have HX1 := hid hx1
  have HY1 := hid hy1
  clear hcb hl hcx hcy hix hiy hx1 hy1 hx hy hall S S1
  have h0b : ¬ y.n < 0 := by omega
  have h63b : ¬ y.n > 63 := by omega
  go_enter Tryd.func31, Tryd.ntmps31
  go_wp2_with fail
  refine HI.out.mono ?_
  rintro e w1 ⟨rfl, s1⟩
  have S2 := hid s1
  have c0 : World.cell? w1 ⟨cb, 0, none⟩ = some (.int .i64 10) := s1.archCell HCB.out 0
  have c1 : World.cell? w1 ⟨cb, 1, none⟩ = some (.slice (some ⟨g, off, none⟩) 2 c) := s1.archCell HCB.out 1
  have x1 : World.cell? w1 ⟨g, off + 1, none⟩ = some (.int .i64 x.n) := s1.cellIn HX1.out
  have y1 : World.cell? w1 ⟨g, off + 6 + 1, none⟩ = some (.int .i64 y.n) := s1.cellIn HY1.out
  have y2 : World.cell? w1 ⟨g, off + 7, none⟩ = some (.int .i64 y.n) := s1.cellIn HY1.out
  clear s1 HI

  go_wp2_with fail
  refine (numb_any S2.out _).mono ?_
  rintro e w2 ⟨rfl, s2⟩
  have S3 := hid s2.swap
  have z0 : World.cell? w2 ⟨w.heap.size, 0, none⟩ = some (.int .i64 0) := S3.out.cell 0
  have f0 := S3.out.free 0
  have z1 : World.cell? w2 ⟨w.heap.size, 1, none⟩ = some (.int .i64 0) := S3.out.cell 1
  have f1 := S3.out.free 1
  have z2 : World.cell? w2 ⟨w.heap.size, 2, none⟩ = some (.string ⟨#[]⟩) := S3.out.cell 2
  have f2 := S3.out.free 2
  have z3 : World.cell? w2 ⟨w.heap.size, 3, none⟩ = some (.slice none 0 0) := S3.out.cell 3
  have f3 := S3.out.free 3
  have z4 : World.cell? w2 ⟨w.heap.size, 4, none⟩ = some (.slice none 0 0) := S3.out.cell 4
  have f4 := S3.out.free 4
  have z5 : World.cell? w2 ⟨w.heap.size, 5, none⟩ = some (.slice none 0 0) := S3.out.cell 5
  have f5 := S3.out.free 5
  clear s2 S2 c0 c1 x1 y1 y2
  go_wp2_with fail
  have s7 := ((((((S3.out.set 0 (.int .i64 1)).set 1 (.int .i64 (x.n / 2 ^ y.n.toNat))).set 2 (.string ⟨#[]⟩)).set 3 (.slice none 0 0)).set 4 (.slice none 0 0)).set 5 (.slice none 0 0))
  refine bodyPost_ret (v := .tuple #[.agg #[.int .i64 1, .int .i64 (x.n / 2 ^ y.n.toNat), .string ⟨#[]⟩, .slice none 0 0, .slice none 0 0, .slice none 0 0], .bool true]) (by simp [results, Tryd.results31, go_sem, z0, z1, z2, z3, z4, z5]) rfl ?_
  exact MethP.some' rfl (Le.refl _) s7.drop (in_N _ _)
theorem reckon_9_bad (S : Sat W w (arch h :: L)) (x y : T) (hc : CArg h cb 9 [x, y]) (hx : x.k = 1) (hy : y.k = 1) (h63 : y.n > 63) :
    Calls Tryd.prog 31 #[.pointer (some ⟨cb, 0, none⟩)] w (MethP W L h none) := by
  have S1 := hid (S.allocAt (k := w.heap.size) (.cells #[.int .i64 0, .int .i64 0, .string ⟨#[]⟩, .slice none 0 0, .slice none 0 0, .slice none 0 0] 35) rfl).swap
  have HI := hid (ints_any S1.out [x, y] hc (by show 2 ≤ 1000000; decide))
  have hall : ([x, y].all fun t => t.k == 1) = true := by simp [hx, hy]
  rw [hall] at HI
  obtain ⟨a, c, hcb, hl⟩ := hc
  obtain ⟨g, off, vs, rfl, hcx, hix⟩ := hl.get (j := 0) (t := x) rfl
  obtain ⟨g', off', us, hgg, hcy, hiy⟩ := hl.get (j := 1) (t := y) rfl
  cases hgg
  obtain ⟨_, _, _, _, _, _, rfl, _⟩ := hix.vals
  obtain ⟨_, _, _, _, _, _, rfl, _⟩ := hiy.vals
  have hx1 := hcx 1 _ rfl
  have hy1 := hcy 1 _ rfl
  rw [show off + (0 + 0) * 6 + 1 = off + 1 by omega] at hx1
  rw [show off + (0 + 1) * 6 + 1 = off + 6 + 1 by omega] at hy1
  have HCB := hid hcb
  have HX1 := hid hx1
  have HY1 := hid hy1
  clear hcb hl hcx hcy hix hiy hx1 hy1 hx hy hall S S1
  have h0b : ¬ y.n < 0 := by omega
  go_enter Tryd.func31, Tryd.ntmps31
  go_wp2_with fail
  refine HI.out.mono ?_
  rintro e w1 ⟨rfl, s1⟩
  have S2 := hid s1
  have c0 : World.cell? w1 ⟨cb, 0, none⟩ = some (.int .i64 9) := s1.archCell HCB.out 0
  have c1 : World.cell? w1 ⟨cb, 1, none⟩ = some (.slice (some ⟨g, off, none⟩) 2 c) := s1.archCell HCB.out 1
  have x1 : World.cell? w1 ⟨g, off + 1, none⟩ = some (.int .i64 x.n) := s1.cellIn HX1.out
  have y1 : World.cell? w1 ⟨g, off + 6 + 1, none⟩ = some (.int .i64 y.n) := s1.cellIn HY1.out
  have y2 : World.cell? w1 ⟨g, off + 7, none⟩ = some (.int .i64 y.n) := s1.cellIn HY1.out
  clear s1 HI

  have S3 := hid S2.out.swap
  have z0 : World.cell? w1 ⟨w.heap.size, 0, none⟩ = some (.int .i64 0) := S3.out.cell 0
  have f0 := S3.out.free 0
  have z1 : World.cell? w1 ⟨w.heap.size, 1, none⟩ = some (.int .i64 0) := S3.out.cell 1
  have f1 := S3.out.free 1
  have z2 : World.cell? w1 ⟨w.heap.size, 2, none⟩ = some (.string ⟨#[]⟩) := S3.out.cell 2
  have f2 := S3.out.free 2
  have z3 : World.cell? w1 ⟨w.heap.size, 3, none⟩ = some (.slice none 0 0) := S3.out.cell 3
  have f3 := S3.out.free 3
  have z4 : World.cell? w1 ⟨w.heap.size, 4, none⟩ = some (.slice none 0 0) := S3.out.cell 4
  have f4 := S3.out.free 4
  have z5 : World.cell? w1 ⟨w.heap.size, 5, none⟩ = some (.slice none 0 0) := S3.out.cell 5
  have f5 := S3.out.free 5
  go_wp2_with fail
  have s7 := ((((((S3.out.set 0 (.int .i64 0)).set 1 (.int .i64 0)).set 2 (.string ⟨#[]⟩)).set 3 (.slice none 0 0)).set 4 (.slice none 0 0)).set 5 (.slice none 0 0))
  refine bodyPost_ret (v := .tuple #[.agg #[.int .i64 0, .int .i64 0, .string ⟨#[]⟩, .slice none 0 0, .slice none 0 0, .slice none 0 0], .bool false]) (by simp [results, Tryd.results31, go_sem, z0, z1, z2, z3, z4, z5]) rfl ?_
  exact MethP.none' rfl (Le.refl _) s7.drop (in_Z0 _)
theorem reckon_10_bad (S : Sat W w (arch h :: L)) (x y : T) (hc : CArg h cb 10 [x, y]) (hx : x.k = 1) (hy : y.k = 1) (h63 : y.n > 63) :
    Calls Tryd.prog 31 #[.pointer (some ⟨cb, 0, none⟩)] w (MethP W L h none) := by
  have S1 := hid (S.allocAt (k := w.heap.size) (.cells #[.int .i64 0, .int .i64 0, .string ⟨#[]⟩, .slice none 0 0, .slice none 0 0, .slice none 0 0] 35) rfl).swap
  have HI := hid (ints_any S1.out [x, y] hc (by show 2 ≤ 1000000; decide))
  have hall : ([x, y].all fun t => t.k == 1) = true := by simp [hx, hy]
  rw [hall] at HI
  obtain ⟨a, c, hcb, hl⟩ := hc
  obtain ⟨g, off, vs, rfl, hcx, hix⟩ := hl.get (j := 0) (t := x) rfl
  obtain ⟨g', off', us, hgg, hcy, hiy⟩ := hl.get (j := 1) (t := y) rfl
  cases hgg
  obtain ⟨_, _, _, _, _, _, rfl, _⟩ := hix.vals
  obtain ⟨_, _, _, _, _, _, rfl, _⟩ := hiy.vals
  have hx1 := hcx 1 _ rfl
  have hy1 := hcy 1 _ rfl
  rw [show off + (0 + 0) * 6 + 1 = off + 1 by omega] at hx1
  rw [show off + (0 + 1) * 6 + 1 = off + 6 + 1 by omega] at hy1
  have HCB := hid hcb
  have HX1 := hid hx1
  have HY1 := hid hy1
  clear hcb hl hcx hcy hix hiy hx1 hy1 hx hy hall S S1
  have h0b : ¬ y.n < 0 := by omega
  go_enter Tryd.func31, Tryd.ntmps31
  go_wp2_with fail
  refine HI.out.mono ?_
  rintro e w1 ⟨rfl, s1⟩
  have S2 := hid s1
  have c0 : World.cell? w1 ⟨cb, 0, none⟩ = some (.int .i64 10) := s1.archCell HCB.out 0
  have c1 : World.cell? w1 ⟨cb, 1, none⟩ = some (.slice (some ⟨g, off, none⟩) 2 c) := s1.archCell HCB.out 1
  have x1 : World.cell? w1 ⟨g, off + 1, none⟩ = some (.int .i64 x.n) := s1.cellIn HX1.out
  have y1 : World.cell? w1 ⟨g, off + 6 + 1, none⟩ = some (.int .i64 y.n) := s1.cellIn HY1.out
  have y2 : World.cell? w1 ⟨g, off + 7, none⟩ = some (.int .i64 y.n) := s1.cellIn HY1.out
  clear s1 HI

  have S3 := hid S2.out.swap
  have z0 : World.cell? w1 ⟨w.heap.size, 0, none⟩ = some (.int .i64 0) := S3.out.cell 0
  have f0 := S3.out.free 0
  have z1 : World.cell? w1 ⟨w.heap.size, 1, none⟩ = some (.int .i64 0) := S3.out.cell 1
  have f1 := S3.out.free 1
  have z2 : World.cell? w1 ⟨w.heap.size, 2, none⟩ = some (.string ⟨#[]⟩) := S3.out.cell 2
  have f2 := S3.out.free 2
  have z3 : World.cell? w1 ⟨w.heap.size, 3, none⟩ = some (.slice none 0 0) := S3.out.cell 3
  have f3 := S3.out.free 3
  have z4 : World.cell? w1 ⟨w.heap.size, 4, none⟩ = some (.slice none 0 0) := S3.out.cell 4
  have f4 := S3.out.free 4
  have z5 : World.cell? w1 ⟨w.heap.size, 5, none⟩ = some (.slice none 0 0) := S3.out.cell 5
  have f5 := S3.out.free 5
  go_wp2_with fail
  have s7 := ((((((S3.out.set 0 (.int .i64 0)).set 1 (.int .i64 0)).set 2 (.string ⟨#[]⟩)).set 3 (.slice none 0 0)).set 4 (.slice none 0 0)).set 5 (.slice none 0 0))
  refine bodyPost_ret (v := .tuple #[.agg #[.int .i64 0, .int .i64 0, .string ⟨#[]⟩, .slice none 0 0, .slice none 0 0, .slice none 0 0], .bool false]) (by simp [results, Tryd.results31, go_sem, z0, z1, z2, z3, z4, z5]) rfl ?_
  exact MethP.none' rfl (Le.refl _) s7.drop (in_Z0 _)
end
end Go.Proofs.YtlgogflhjpcmlaaDoor
