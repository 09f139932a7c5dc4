/-
  tree.left, tree.leaf: what is left of a list; two terms of one kind without parts.
-/
import Derived.Test.YtlgogflhjpcmlaaDoorTCmp
import Derived.Deep.LoopGhost
import Derived.Deep.DeepCutAuto
import Derived.Deep.CutBlock
namespace Go.Proofs.YtlgogflhjpcmlaaDoor
open Go.RowKit
set_option maxHeartbeats 2000000

theorem conv_rd {P : Program} {w : World} {src e dst : TypeId} (hs : P.underlying src = some (.slice e)) (he : P.underlying e = some (.int .u8)) (hd : P.underlying dst = some .string) {a : Option Addr} {n c : Nat} {xs : List Int} (hn : xs.length = n) (r : Rd w a (u8s xs)) :
    (convert src dst (.slice a n c)).run P w = .ok (.string (strOfNums xs)) w := by
  by_cases h0 : n = 0
  · subst h0
    obtain rfl : xs = [] := List.eq_nil_of_length_eq_zero hn
    cases a with
    | none => exact run_convert_bytes_nil (P := P) w src e hs he 0 c dst hd
    | some a =>
      rw [run_convert_bytes_string w src dst e (some a) 0 c hs he hd]
      simp [Conv.bytesToString, loadCells, loadCellsFrom, strOfNums]
      rfl
  · obtain ⟨g, off, rfl, hc⟩ := r.cells (by rw [length_u8s, hn]; omega)
    refine run_convert_bytes_arg w src e hs he g off n c xs hn (fun i hi => ?_) dst hd
    rw [hc i (by rw [length_u8s, hn]; exact hi)]
    have hx : xs[i]? = some xs[i] := List.getElem?_eq_getElem (by omega)
    rw [get_u8s hx]
    simp [List.getD_eq_getElem?_getD, hx]

section
variable {W w : World} {L : List HP} {h : Nat → Option Obj}
set_option maxRecDepth 100000 in
theorem left_any (S : Sat W w (arch h :: L)) (t : T) (vs : List Value) (n : Nat) (hin : TIn h t vs) (hok : TOk t) (hn : n ≤ t.is.length) :
    Calls Tryd.prog 37 #[.agg vs.toArray, .int .i64 n] w fun e w' => ∃ vs', e = .returned (.agg vs'.toArray) ∧ TIn h (leftT t n) vs' ∧ Sat W w' (arch h :: L) := by
  obtain ⟨ia, ic, ra, rc, ba, bc, rfl, q1, q2, q3, q4⟩ := hin.vals
  have hf := hok.fit
  obtain ⟨ni, HNI⟩ : ∃ ni, Hid (t.is.length = ni) := ⟨_, hid rfl⟩
  obtain ⟨nr, HNR⟩ : ∃ nr, Hid (t.rs.length = nr) := ⟨_, hid rfl⟩
  have b1 : ni ≤ 1353245080300 := by rw [← HNI.out]; exact hf.is
  have b2 : nr ≤ 1353245080300 := by rw [← HNR.out]; exact hf.rs
  have hic : ni ≤ ic := by rw [← HNI.out]; exact q4.1
  have hicm : ic ≤ maxLen := q4.2.2.2.1
  unfold maxLen at hicm
  have HQ1 := hid q1
  have HQ2 := hid q2
  have HQ4 := hid q4
  have HF := hid hf
  rw [HNI.out] at hn
  have S1 := hid ((S.allocAt (k := w.heap.size) (.cells (tVals t ia ic ra rc ba bc).toArray 35) rfl).allocAt (k := w.heap.size + 1) (.cells #[.int .i64 0, .int .i64 0, .string ⟨#[]⟩, .slice none 0 0, .slice none 0 0, .slice none 0 0] 35) (by simp))
  have f0 := S1.out.free 0
  have f1 := S1.out.free 1
  have f2 := S1.out.free 2
  have f3 := S1.out.free 3
  have f4 := S1.out.free 4
  have f5 := S1.out.free 5
  have s2 := S1.out.swap
  unfold tVals at s2
  rw [HNI.out, HNR.out] at s2
  have t3 : World.cell? _ ⟨w.heap.size, 3, none⟩ = some (.slice ia ni ic) := s2.cell 3
  have t4 : World.cell? _ ⟨w.heap.size, 4, none⟩ = some (.slice ra nr rc) := s2.cell 4
  have S0 := hid S
  clear s2 q1 q2 q3 q4 hin hok hf S
  unfold tVals at S1 ⊢
  rw [HNI.out, HNR.out] at S1 ⊢
  go_enter Tryd.func37, Tryd.ntmps37
  by_cases hlt : n < ni
  · have hia : ∃ g off, ia = some ⟨g, off, none⟩ := by
      obtain ⟨g, off, vs, e, _⟩ := HQ1.out.get (List.getElem?_eq_getElem (by rw [HNI.out]; exact hlt) : t.is[n]? = _)
      exact ⟨g, off, e⟩
    obtain ⟨g, off, rfl⟩ := hia
    have hne : ¬ ic = n := by omega
    have hne2 : ¬ n = ic := by omega
    go_wp2_with fail
    go_region_law (fail)
    all_goals go_wp2_with fail
    all_goals refine bodyPost_ret (v := .agg #[.int .i64 7, .int .i64 0, .string ⟨#[]⟩, .slice (some ⟨g, off + n * 6, none⟩) (ni - n) (ic - n), .slice ra nr rc, .slice none 0 0]) (by simp [results, Tryd.results37, go_sem]) rfl ⟨[.int .i64 7, .int .i64 0, .string ⟨#[]⟩, .slice (some ⟨g, off + n * 6, none⟩) (ni - n) (ic - n), .slice ra nr rc, .slice none 0 0], rfl, ?_, ((S0.out.alloc' _).alloc' _).drew⟩
    all_goals
      have hl : leftT t n = .mk 7 0 ⟨#[]⟩ (t.is.drop n) t.rs [] := by unfold leftT; rw [if_pos (by rw [HNI.out]; exact hlt)]; rfl
      have hq := TIn.of (t := .mk 7 0 ⟨#[]⟩ (t.is.drop n) t.rs []) (ic := ic - n) (rc := rc) (bc := 0) (ba := none) (HQ1.out.drop n) HQ2.out (RdIn.nil _ _) (by show (t.is.drop n).length ≤ ic - n ∧ t.rs.length ≤ rc ∧ 0 ≤ 0 ∧ ic - n ≤ maxLen ∧ rc ≤ maxLen ∧ 0 ≤ maxLen; have := HQ4.out; rw [List.length_drop, HNI.out]; rw [HNI.out] at this; omega)
      rw [hl]
      have hv : tVals (.mk 7 0 ⟨#[]⟩ (t.is.drop n) t.rs []) (some ⟨g, off + n * 6, none⟩) (ic - n) ra rc none 0 = [.int .i64 7, .int .i64 0, .string ⟨#[]⟩, .slice (some ⟨g, off + n * 6, none⟩) (ni - n) (ic - n), .slice ra nr rc, .slice none 0 0] := by
        show ([.int .i64 7, .int .i64 0, .string ⟨#[]⟩, .slice (some ⟨g, off + n * 6, none⟩) (t.is.drop n).length (ic - n), .slice ra t.rs.length rc, .slice none 0 0] : List Value) = _
        rw [List.length_drop, HNI.out, HNR.out]
      rw [hv] at hq
      exact hq
  · by_cases hr : 0 < nr
    · obtain ⟨r, hr0⟩ : ∃ r, t.rs[0]? = some r := ⟨_, List.getElem?_eq_getElem (by rw [HNR.out]; exact hr)⟩
      obtain ⟨g, off, rvs, rfl, hc, hri⟩ := HQ2.out.get hr0
      obtain ⟨ia', ic', ra', rc', ba', bc', rfl, _⟩ := id hri.vals
      have k0 := S1.out.rot3.cellIn (hc 0 _ rfl)
      have k1 := S1.out.rot3.cellIn (hc 1 _ rfl)
      have k2 := S1.out.rot3.cellIn (hc 2 _ rfl)
      have k3 := S1.out.rot3.cellIn (hc 3 _ rfl)
      have k4 := S1.out.rot3.cellIn (hc 4 _ rfl)
      have k5 := S1.out.rot3.cellIn (hc 5 _ rfl)
      simp only [Nat.zero_mul, Nat.add_zero] at k0 k1 k2 k3 k4 k5
      have hlr : leftT t n = r := by
        unfold leftT
        rw [if_neg (by rw [HNI.out]; exact hlt)]
        cases hrs : t.rs with
        | nil => rw [hrs] at hr0; simp at hr0
        | cons x xs => rw [hrs] at hr0; simpa using hr0
      have HLR := hid hlr
      have HRI := hid hri
      clear hc hri hlr hr0
      go_wp2_with fail
      refine bodyPost_ret (v := .agg #[.int .i64 r.k, .int .i64 r.n, .string r.nm, .slice ia' r.is.length ic', .slice ra' r.rs.length rc', .slice ba' r.bs.length bc']) (by simp [results, Tryd.results37, go_sem]) rfl ⟨tVals r ia' ic' ra' rc' ba' bc', rfl, ?_, ((S0.out.alloc' _).alloc' _)⟩
      rw [HLR.out]
      exact HRI.out
    · have hlr : leftT t n = tNil := by
        unfold leftT
        rw [if_neg (by rw [HNI.out]; exact hlt)]
        have : t.rs = [] := List.eq_nil_of_length_eq_zero (by rw [HNR.out]; omega)
        rw [this]; rfl
      have HLR := hid hlr
      clear hlr
      go_wp2_with fail
      refine bodyPost_ret (v := .agg #[.int .i64 6, .int .i64 0, .string ⟨#[]⟩, .slice none 0 0, .slice none 0 0, .slice none 0 0]) (by simp [results, Tryd.results37, go_sem]) rfl ⟨tVals tNil none 0 none 0 none 0, rfl, ?_, ((S0.out.alloc' _).alloc' _)⟩
      rw [HLR.out]
      exact TIn.of (LIn.nil _ _) (LIn.nil _ _) (RdIn.nil _ _) (by simp [tNil, T.is, T.rs, T.bs, maxLen])
end
section
variable {W w : World} {L : List HP} {h : Nat → Option Obj}
@[go_sem] theorem gtr_s (x y : ByteArray) (w : World) : (binOp .gtr 9 (.string x) (.string y)).run Tryd.prog w = .ok (.bool (!(Op.bytesLess x.toList y.toList || (x.toList == y.toList)))) w := by kernel_rfl
theorem ordS_lt {s t : ByteArray} (h : Op.bytesLess s.toList t.toList = true) : ordS s t = -1 := by unfold ordS; rw [if_pos h]
theorem ordS_eq {s t : ByteArray} (h : Op.bytesLess s.toList t.toList = false) (h' : (s.toList == t.toList) = true) : ordS s t = 0 := by unfold ordS; rw [if_neg (by rw [h]; simp), if_pos h']
theorem ordS_gt {s t : ByteArray} (h : Op.bytesLess s.toList t.toList = false) (h' : (s.toList == t.toList) = false) : ordS s t = 1 := by unfold ordS; rw [if_neg (by rw [h]; simp), if_neg (by rw [h']; simp)]
theorem bytesLess_irrefl (l : List UInt8) : Op.bytesLess l l = false := by
  induction l with
  | nil => rfl
  | cons a l ih => simp [Op.bytesLess, ih]
set_option maxRecDepth 100000 in
theorem leaf_any (S : Sat W w (arch h :: L)) (t u : T) (vs us : List Value) (hin : TIn h t vs) (hiu : TIn h u us) :
    Calls Tryd.prog 38 #[.agg vs.toArray, .agg us.toArray] w fun e w' => e = .returned (.int .i64 (leafB t u)) ∧ Sat W w' (arch h :: L) := by
  obtain ⟨ia, ic, ra, rc, ba, bc, rfl, q1, q2, q3, q4⟩ := hin.vals
  obtain ⟨ia', ic', ra', rc', ba', bc', rfl, p1, p2, p3, p4⟩ := hiu.vals
  obtain ⟨k, HK⟩ : ∃ k, Hid (t.k = k) := ⟨_, hid rfl⟩
  have S1 := hid ((S.alloc' (.cells (tVals t ia ic ra rc ba bc).toArray 35)).alloc' (.cells (tVals u ia' ic' ra' rc' ba' bc').toArray 35))
  have HQ3 := hid q3
  have HP3 := hid p3
  have HNB : Hid (t.bs.length = t.bs.length) := hid rfl
  clear S hin hiu q1 q2 q3 q4 p1 p2 p3 p4
  unfold tVals at S1 ⊢
  rw [HK.out] at S1 ⊢
  go_enter Tryd.func38, Tryd.ntmps38
  go_wp2_with fail
  go_region_law (fail)
  all_goals clear HNB
  all_goals
    by_cases k8 : k = 8
    · subst k8
      have v1 := fun dst hd => conv_rd (P := Tryd.prog) (src := 33) (dst := dst) (c := bc) Tryd.underlying33 Tryd.underlying5 hd (n := t.bs.length) rfl (S1.out.drew.drew.archRd HQ3.out)
      have v2 := fun dst hd => conv_rd (P := Tryd.prog) (src := 33) (dst := dst) (c := bc') Tryd.underlying33 Tryd.underlying5 hd (n := u.bs.length) rfl (S1.out.drew.drew.archRd HP3.out)
      have hlf : leafB t u = ordS (strOfNums t.bs) (strOfNums u.bs) := by unfold leafB; rw [HK.out, if_pos rfl]
      obtain ⟨x, hx⟩ : ∃ x, strOfNums t.bs = x := ⟨_, rfl⟩
      obtain ⟨y, hy⟩ : ∃ y, strOfNums u.bs = y := ⟨_, rfl⟩
      rw [hx] at v1 hlf
      rw [hy] at v2 hlf
      clear hx hy
      go_wp2_with fail
      go_region_law (fail)
      all_goals clear v1 v2
      all_goals
        cases hb : Op.bytesLess x.toList y.toList with
        | true =>
          have hr := hlf.trans (ordS_lt hb)
          clear hlf
          go_wp2_with fail
          go_ret
          exact ⟨by rw [hr]; rfl, S1.out.drew.drew⟩
        | false =>
          cases he : (x.toList == y.toList) with
          | true =>
            have hr := hlf.trans (ordS_eq hb he)
            clear hlf
            go_wp2_with fail
            go_ret
            exact ⟨by rw [hr]; rfl, S1.out.drew.drew⟩
          | false =>
            have hr := hlf.trans (ordS_gt hb he)
            clear hlf
            go_wp2_with fail
            go_ret
            exact ⟨by rw [hr]; rfl, S1.out.drew.drew⟩
    · by_cases k2 : k = 2
      · subst k2
        have hlf : leafB t u = ordS t.nm u.nm := by unfold leafB; rw [HK.out, if_neg (by decide), if_pos rfl]
        obtain ⟨x, hx⟩ : ∃ x, Hid (t.nm = x) := ⟨_, hid rfl⟩
        obtain ⟨y, hy⟩ : ∃ y, Hid (u.nm = y) := ⟨_, hid rfl⟩
        rw [hx.out, hy.out] at hlf
        rw [hx.out, hy.out] at S1 ⊢
        clear k8
        cases hb : Op.bytesLess x.toList y.toList with
        | true =>
          have hr := hlf.trans (ordS_lt hb)
          clear hlf
          go_wp2_with fail
          go_ret
          exact ⟨by rw [hr]; rfl, S1.out.drew⟩
        | false =>
          cases he : (x.toList == y.toList) with
          | true =>
            have hr := hlf.trans (ordS_eq hb he)
            clear hlf
            go_wp2_with fail
            go_ret
            exact ⟨by rw [hr]; rfl, S1.out.drew⟩
          | false =>
            have hr := hlf.trans (ordS_gt hb he)
            clear hlf
            go_wp2_with fail
            go_ret
            exact ⟨by rw [hr]; rfl, S1.out.drew⟩
      · have hlf : leafB t u = ordB t.n u.n := by unfold leafB; rw [HK.out, if_neg k8, if_neg k2]
        go_wp2_with fail
        refine (order_any t.n u.n _).mono ?_
        rintro e w2 ⟨rfl, rfl⟩
        go_wp2_with fail
        go_ret
        exact ⟨by rw [hlf]; rfl, S1.out.drew⟩
end
#print axioms conv_rd
end Go.Proofs.YtlgogflhjpcmlaaDoor
