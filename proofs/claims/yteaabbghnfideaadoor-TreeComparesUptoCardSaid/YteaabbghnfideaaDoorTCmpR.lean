/-
  The document's Compare. (Written by wip/gen/gen_cmpr.py.)
-/
import Derived.Test.YteaabbghnfideaaDoorTCmpW
import Derived.Test.YteaabbghnfideaaDoorTCmpC
namespace Go.Proofs.YteaabbghnfideaaDoor
open Go.RowKit
set_option maxHeartbeats 20000000

theorem sign_any (a b : Int) (w : World) : Calls Tryd.prog 46 #[.int .i64 a, .int .i64 b] w fun e w' => e = .returned (.int .i64 (ordB a b)) ∧ w = w' := by
  rcases Int.lt_trichotomy a b with hab | hab | hab
  · have h1 : decide (a < b) = true := by simpa using hab
    have hr : ordB a b = -1 := by unfold ordB; rw [if_pos hab]
    rw [hr]
    go_enter Tryd.func46, Tryd.ntmps46
    go_wp2_with fail
    go_ret
    exact ⟨rfl, rfl⟩
  · subst hab
    have h1 : decide (a < a) = false := by simp
    have hr : ordB a a = 0 := by unfold ordB; rw [if_neg (by omega), if_neg (by omega)]
    rw [hr]
    go_enter Tryd.func46, Tryd.ntmps46
    go_wp2_with fail
    go_ret
    exact ⟨rfl, rfl⟩
  · have h1 : decide (a < b) = false := by simp; omega
    have h2 : decide (b < a) = true := by simpa using hab
    have hr : ordB a b = 1 := by unfold ordB; rw [if_neg (by omega), if_pos hab]
    rw [hr]
    go_enter Tryd.func46, Tryd.ntmps46
    go_wp2_with fail
    go_ret
    exact ⟨rfl, rfl⟩
theorem text_any (x y : ByteArray) (w : World) : Calls Tryd.prog 47 #[.string x, .string y] w fun e w' => e = .returned (.int .i64 (ordS x y)) ∧ w = w' := by
  cases hb : Op.bytesLess x.toList y.toList with
  | true =>
    rw [ordS_lt hb]
    go_enter Tryd.func47, Tryd.ntmps47
    go_wp2_with fail
    go_ret
    exact ⟨rfl, rfl⟩
  | false =>
    cases he : (x.toList == y.toList) with
    | true =>
      rw [ordS_eq hb he]
      go_enter Tryd.func47, Tryd.ntmps47
      go_wp2_with fail
      go_ret
      exact ⟨rfl, rfl⟩
    | false =>
      rw [ordS_gt hb he]
      go_enter Tryd.func47, Tryd.ntmps47
      go_wp2_with fail
      go_ret
      exact ⟨rfl, rfl⟩
section
variable {W w : World} {L : List HP} {h : Nat → Option Obj}
set_option maxRecDepth 100000 in
theorem leftX_any (S : Sat W w (arch h :: L)) (t : T) (vs : List Value) (n : Nat) (hin : TIn h t vs) (hok : TOk t) (hn : n ≤ t.is.length) :
    Calls Tryd.prog 48 #[.agg vs.toArray, .int .i64 n] w fun e w' => ∃ vs', e = .returned (.agg vs'.toArray) ∧ TIn h (leftT t n) vs' ∧ Sat W w' (arch h :: L) := by
  obtain ⟨ia, ic, ra, rc, ba, bc, rfl, q1, q2, q3, q4⟩ := hin.vals
  have hf := hok.fit
  obtain ⟨ni, HNI⟩ : ∃ ni, Hid (t.is.length = ni) := ⟨_, hid rfl⟩
  obtain ⟨nr, HNR⟩ : ∃ nr, Hid (t.rs.length = nr) := ⟨_, hid rfl⟩
  have b1 : ni ≤ 1353245080300 := by rw [← HNI.out]; exact hf.is
  have b2 : nr ≤ 1353245080300 := by rw [← HNR.out]; exact hf.rs
  have hic : ni ≤ ic := by rw [← HNI.out]; exact q4.1
  have hicm : ic ≤ maxLen := q4.2.2.2.1
  unfold maxLen at hicm
  have HQ1 := hid q1
  have HQ2 := hid q2
  have HQ4 := hid q4
  have HF := hid hf
  rw [HNI.out] at hn
  have S1 := hid ((S.allocAt (k := w.heap.size) (.cells (tVals t ia ic ra rc ba bc).toArray 25) rfl).allocAt (k := w.heap.size + 1) (.cells #[.int .i64 0, .int .i64 0, .string ⟨#[]⟩, .slice none 0 0, .slice none 0 0, .slice none 0 0] 25) (by simp))
  have f0 := S1.out.free 0
  have f1 := S1.out.free 1
  have f2 := S1.out.free 2
  have f3 := S1.out.free 3
  have f4 := S1.out.free 4
  have f5 := S1.out.free 5
  have s2 := S1.out.swap
  unfold tVals at s2
  rw [HNI.out, HNR.out] at s2
  have t3 : World.cell? _ ⟨w.heap.size, 3, none⟩ = some (.slice ia ni ic) := s2.cell 3
  have t4 : World.cell? _ ⟨w.heap.size, 4, none⟩ = some (.slice ra nr rc) := s2.cell 4
  have S0 := hid S
  clear s2 q1 q2 q3 q4 hin hok hf S
  unfold tVals at S1 ⊢
  rw [HNI.out, HNR.out] at S1 ⊢
  go_enter Tryd.func48, Tryd.ntmps48
  by_cases hlt : n < ni
  · have hia : ∃ g off, ia = some ⟨g, off, none⟩ := by
      obtain ⟨g, off, vs, e, _⟩ := HQ1.out.get (List.getElem?_eq_getElem (by rw [HNI.out]; exact hlt) : t.is[n]? = _)
      exact ⟨g, off, e⟩
    obtain ⟨g, off, rfl⟩ := hia
    have hne : ¬ ic = n := by omega
    have hne2 : ¬ n = ic := by omega
    go_wp2_with fail
    go_region_law (fail)
    all_goals go_wp2_with fail
    all_goals refine bodyPost_ret (v := .agg #[.int .i64 7, .int .i64 0, .string ⟨#[]⟩, .slice (some ⟨g, off + n * 6, none⟩) (ni - n) (ic - n), .slice ra nr rc, .slice none 0 0]) (by simp [results, Tryd.results48, go_sem]) rfl ⟨[.int .i64 7, .int .i64 0, .string ⟨#[]⟩, .slice (some ⟨g, off + n * 6, none⟩) (ni - n) (ic - n), .slice ra nr rc, .slice none 0 0], rfl, ?_, ((S0.out.alloc' _).alloc' _).drew⟩
    all_goals
      have hl : leftT t n = .mk 7 0 ⟨#[]⟩ (t.is.drop n) t.rs [] := by unfold leftT; rw [if_pos (by rw [HNI.out]; exact hlt)]; rfl
      have hq := TIn.of (t := .mk 7 0 ⟨#[]⟩ (t.is.drop n) t.rs []) (ic := ic - n) (rc := rc) (bc := 0) (ba := none) (HQ1.out.drop n) HQ2.out (RdIn.nil _ _) (by show (t.is.drop n).length ≤ ic - n ∧ t.rs.length ≤ rc ∧ 0 ≤ 0 ∧ ic - n ≤ maxLen ∧ rc ≤ maxLen ∧ 0 ≤ maxLen; have := HQ4.out; rw [List.length_drop, HNI.out]; rw [HNI.out] at this; omega)
      rw [hl]
      have hv : tVals (.mk 7 0 ⟨#[]⟩ (t.is.drop n) t.rs []) (some ⟨g, off + n * 6, none⟩) (ic - n) ra rc none 0 = [.int .i64 7, .int .i64 0, .string ⟨#[]⟩, .slice (some ⟨g, off + n * 6, none⟩) (ni - n) (ic - n), .slice ra nr rc, .slice none 0 0] := by
        show ([.int .i64 7, .int .i64 0, .string ⟨#[]⟩, .slice (some ⟨g, off + n * 6, none⟩) (t.is.drop n).length (ic - n), .slice ra t.rs.length rc, .slice none 0 0] : List Value) = _
        rw [List.length_drop, HNI.out, HNR.out]
      rw [hv] at hq
      exact hq
  · by_cases hr : 0 < nr
    · obtain ⟨r, hr0⟩ : ∃ r, t.rs[0]? = some r := ⟨_, List.getElem?_eq_getElem (by rw [HNR.out]; exact hr)⟩
      obtain ⟨g, off, rvs, rfl, hc, hri⟩ := HQ2.out.get hr0
      obtain ⟨ia', ic', ra', rc', ba', bc', rfl, _⟩ := id hri.vals
      have k0 := S1.out.rot3.cellIn (hc 0 _ rfl)
      have k1 := S1.out.rot3.cellIn (hc 1 _ rfl)
      have k2 := S1.out.rot3.cellIn (hc 2 _ rfl)
      have k3 := S1.out.rot3.cellIn (hc 3 _ rfl)
      have k4 := S1.out.rot3.cellIn (hc 4 _ rfl)
      have k5 := S1.out.rot3.cellIn (hc 5 _ rfl)
      simp only [Nat.zero_mul, Nat.add_zero] at k0 k1 k2 k3 k4 k5
      have hlr : leftT t n = r := by
        unfold leftT
        rw [if_neg (by rw [HNI.out]; exact hlt)]
        cases hrs : t.rs with
        | nil => rw [hrs] at hr0; simp at hr0
        | cons x xs => rw [hrs] at hr0; simpa using hr0
      have HLR := hid hlr
      have HRI := hid hri
      clear hc hri hlr hr0
      go_wp2_with fail
      refine bodyPost_ret (v := .agg #[.int .i64 r.k, .int .i64 r.n, .string r.nm, .slice ia' r.is.length ic', .slice ra' r.rs.length rc', .slice ba' r.bs.length bc']) (by simp [results, Tryd.results48, go_sem]) rfl ⟨tVals r ia' ic' ra' rc' ba' bc', rfl, ?_, ((S0.out.alloc' _).alloc' _)⟩
      rw [HLR.out]
      exact HRI.out
    · have hlr : leftT t n = tNil := by
        unfold leftT
        rw [if_neg (by rw [HNI.out]; exact hlt)]
        have : t.rs = [] := List.eq_nil_of_length_eq_zero (by rw [HNR.out]; omega)
        rw [this]; rfl
      have HLR := hid hlr
      clear hlr
      go_wp2_with fail
      refine bodyPost_ret (v := .agg #[.int .i64 6, .int .i64 0, .string ⟨#[]⟩, .slice none 0 0, .slice none 0 0, .slice none 0 0]) (by simp [results, Tryd.results48, go_sem]) rfl ⟨tVals tNil none 0 none 0 none 0, rfl, ?_, ((S0.out.alloc' _).alloc' _)⟩
      rw [HLR.out]
      exact TIn.of (LIn.nil _ _) (LIn.nil _ _) (RdIn.nil _ _) (by simp [tNil, T.is, T.rs, T.bs, maxLen])
end
theorem fnz_at {xs ys : List T} {i : Nat} {x y : T} (hx : xs[i]? = some x) (hy : ys[i]? = some y) : fnz (List.zipWith cmp (xs.drop i) (ys.drop i)) = if cmp x y = 0 then fnz (List.zipWith cmp (xs.drop (i + 1)) (ys.drop (i + 1))) else cmp x y := by
  obtain ⟨h1, e1⟩ := List.getElem?_eq_some_iff.1 hx
  obtain ⟨h2, e2⟩ := List.getElem?_eq_some_iff.1 hy
  rw [List.drop_eq_getElem_cons h1, List.drop_eq_getElem_cons h2, List.zipWith_cons_cons, fnz, e1, e2]
theorem fnz_one (c : Int) : fnz [c] = c := by by_cases h : c = 0 <;> simp [fnz, h]
theorem fl_kind {t : T} (h : flds t = true) : t.k = 1 ∨ t.k = 2 ∨ t.k = 3 ∨ t.k = 4 ∨ t.k = 5 ∨ t.k = 6 ∨ t.k = 7 ∨ t.k = 8 := by
  unfold flds fldB at h
  by_cases a3 : t.k = 3 ∨ t.k = 4
  · omega
  rw [if_neg a3] at h
  by_cases a1 : t.k = 1
  · omega
  rw [if_neg a1] at h
  by_cases a2 : t.k = 2
  · omega
  rw [if_neg a2] at h
  by_cases a6 : t.k = 6
  · omega
  rw [if_neg a6] at h
  by_cases a5 : t.k = 5
  · omega
  rw [if_neg a5] at h
  by_cases a7 : t.k = 7
  · omega
  rw [if_neg a7] at h
  by_cases a8 : t.k = 8
  · omega
  rw [if_neg a8] at h
  cases h
theorem fl_6 {t : T} (h : flds t = true) (hk : t.k = 6) : t.n = 0 ∧ t.nm.size = 0 ∧ t.is.length + t.rs.length + t.bs.length = 0 := by
  unfold flds at h
  rw [hk] at h
  exact of_decide_eq_true (show decide (t.n = 0 ∧ t.nm.size = 0 ∧ t.is.length + t.rs.length + t.bs.length = 0) = true from h)
theorem fl_7 {t : T} (h : flds t = true) (hk : t.k = 7) : t.is.length ≠ 0 ∧ t.rs.length ≤ 1 ∧ (t.rs.length = 1 → restK t ≠ 7 ∧ restK t ≠ 6) ∧ t.n = 0 ∧ t.nm.size = 0 ∧ t.bs.length = 0 := by
  unfold flds at h
  rw [hk] at h
  exact of_decide_eq_true (show decide (t.is.length ≠ 0 ∧ t.rs.length ≤ 1 ∧ (t.rs.length = 1 → restK t ≠ 7 ∧ restK t ≠ 6) ∧ t.n = 0 ∧ t.nm.size = 0 ∧ t.bs.length = 0) = true from h)
theorem left_fl {t : T} (n : Nat) (h : TFl t) (hk : t.k = 7) : TFl (leftT t n) := by
  have hf := TFl.eq.1 h
  have h7 := fl_7 hf.1 hk
  unfold leftT
  split
  · rename_i hl
    refine TFl.eq.2 ⟨?_, LFl.of fun x hx => hf.2.1.mem (List.mem_of_mem_drop hx), hf.2.2⟩
    refine decide_eq_true (show (t.is.drop n).length ≠ 0 ∧ t.rs.length ≤ 1 ∧ (t.rs.length = 1 → restK t ≠ 7 ∧ restK t ≠ 6) ∧ (0 : Int) = 0 ∧ ByteArray.empty.size = 0 ∧ ([] : List Int).length = 0 from ⟨by rw [List.length_drop]; omega, h7.2.1, h7.2.2.1, rfl, rfl, rfl⟩)
  · cases hr : t.rs with
    | nil => exact TFl.eq.2 ⟨rfl, by simp [LFl, tNil, T.is], by simp [LFl, tNil, T.rs]⟩
    | cons r rs => exact hf.2.2.mem (by rw [hr]; simp)
def CmpXC (N : Nat) : Prop := ∀ (x y : T), wt x + wt y ≤ N → TOk x → TOk y → TFl x → TFl y → ∀ (W w : World) (L : List HP) (h : Nat → Option Obj) (vs us : List Value), Sat W w (arch h :: L) → TIn h x vs → TIn h y us →
  Calls Tryd.prog 24 #[.agg vs.toArray, .agg us.toArray] w fun e w' => e = .returned (.int .i64 (cmp x y)) ∧ Sat W w' (arch h :: L)
set_option maxRecDepth 100000 in
theorem compareX_step (N : Nat) (ih : CmpXC N) : CmpXC (N + 1) := by
  intro x y hwt hox hoy hflx hfly W w L h vs us S hix hiy
  have hfx := hox.fit
  have hfy := hoy.fit
  have hex := TFl.eq.1 hflx
  have hey := TFl.eq.1 hfly
  obtain ⟨xa, xc, xra, xrc, xba, xbc, rfl, hlx, hlxr, hlxb, _⟩ := id hix.vals
  obtain ⟨ya, yc, yra, yrc, yba, ybc, rfl, hly, hlyr, hlyb, _⟩ := id hiy.vals
  obtain ⟨nx, HNX⟩ : ∃ nx, Hid (x.is.length = nx) := ⟨_, hid rfl⟩
  obtain ⟨ny, HNY⟩ : ∃ ny, Hid (y.is.length = ny) := ⟨_, hid rfl⟩
  obtain ⟨k, HK⟩ : ∃ k, Hid (x.k = k) := ⟨_, hid rfl⟩
  obtain ⟨k2, HK2⟩ : ∃ k2, Hid (y.k = k2) := ⟨_, hid rfl⟩
  obtain ⟨xn, HXN⟩ : ∃ v, Hid (x.n = v) := ⟨_, hid rfl⟩
  obtain ⟨xm, HXM⟩ : ∃ v, Hid (x.nm = v) := ⟨_, hid rfl⟩
  obtain ⟨xrl, HXR⟩ : ∃ v, Hid (x.rs.length = v) := ⟨_, hid rfl⟩
  obtain ⟨xbl, HXB⟩ : ∃ v, Hid (x.bs.length = v) := ⟨_, hid rfl⟩
  obtain ⟨yn, HYN⟩ : ∃ v, Hid (y.n = v) := ⟨_, hid rfl⟩
  obtain ⟨ym, HYM⟩ : ∃ v, Hid (y.nm = v) := ⟨_, hid rfl⟩
  obtain ⟨yrl, HYR⟩ : ∃ v, Hid (y.rs.length = v) := ⟨_, hid rfl⟩
  obtain ⟨ybl, HYB⟩ : ∃ v, Hid (y.bs.length = v) := ⟨_, hid rfl⟩
  have bx : nx ≤ 1353245080300 := by rw [← HNX.out]; exact hfx.is
  have by' : ny ≤ 1353245080300 := by rw [← HNY.out]; exact hfy.is
  have HOX := hid hfx
  have HOY := hid hfy
  have HTX := hid hox
  have HTY := hid hoy
  have HFX := hid hex
  have HFY := hid hey
  have HFLX := hid hflx
  have HFLY := hid hfly
  have HLX := hid hlx
  have HLY := hid hly
  have HBX := hid hlxb
  have HBY := hid hlyb
  have HWT := hid hwt
  have IH := hid ih
  have HIX := hid hix
  have HIY := hid hiy
  obtain ⟨r, HR⟩ : ∃ r, Hid (cmp x y = r) := ⟨_, hid rfl⟩
  have S1 := hid (((S.allocAt (k := w.heap.size) (.cells (tVals x xa xc xra xrc xba xbc).toArray 25) rfl).allocAt (k := w.heap.size + 1) (.cells (tVals y ya yc yra yrc yba ybc).toArray 25) (by simp)).swap)
  clear S hwt hox hoy hflx hfly hfx hfy hex hey hlx hly hlxr hlyr hlxb hlyb ih hix hiy
  unfold tVals at S1 HIX HIY ⊢
  rw [HR.out]
  rw [HNX.out, HNY.out, HK.out, HK2.out, HXN.out, HXM.out, HXR.out, HXB.out, HYN.out, HYM.out, HYR.out, HYB.out] at S1
  rw [HNX.out, HK.out, HXN.out, HXM.out, HXR.out, HXB.out] at HIX
  rw [HNY.out, HK2.out, HYN.out, HYM.out, HYR.out, HYB.out] at HIY
  rw [HNX.out, HNY.out, HK.out, HK2.out, HXN.out, HXM.out, HXR.out, HXB.out, HYN.out, HYM.out, HYR.out, HYB.out]
  go_enter Tryd.func24, Tryd.ntmps24
  by_cases hk : k = k2
  · subst hk
    have hcl : k ≠ 5 → k ≠ 7 → r = leafB x y := fun h5 h7 => by rw [← HR.out, cmp_leaf (HK.out.trans HK2.out.symm) (by rw [HK.out]; exact h5) (by rw [HK.out]; exact h7)]
    have HCL := hid hcl
    clear hcl
    have hkk := fl_kind HFX.out.1
    rw [HK.out] at hkk
    rcases hkk with rfl | rfl | rfl | rfl | rfl | rfl | rfl | rfl
    · have hr : r = ordB xn yn := by rw [HCL.out (by decide) (by decide)]; unfold leafB; rw [HK.out, if_neg (by decide), if_neg (by decide), HXN.out, HYN.out]
      have HRR := hid hr
      clear hr
      go_wp2_with fail
      refine (sign_any xn yn _).mono ?_
      rintro e w2 ⟨rfl, rfl⟩
      go_wp2_with fail
      go_ret
      exact ⟨by rw [HRR.out]; rfl, S1.out.drop.drop⟩
    · have hr : r = ordS xm ym := by rw [HCL.out (by decide) (by decide)]; unfold leafB; rw [HK.out, if_neg (by decide), if_pos rfl, HXM.out, HYM.out]
      have HRR := hid hr
      clear hr
      go_wp2_with fail
      refine (text_any xm ym _).mono ?_
      rintro e w2 ⟨rfl, rfl⟩
      go_wp2_with fail
      go_ret
      exact ⟨by rw [HRR.out]; rfl, S1.out.drop.drop⟩
    · have hr : r = ordB xn yn := by rw [HCL.out (by decide) (by decide)]; unfold leafB; rw [HK.out, if_neg (by decide), if_neg (by decide), HXN.out, HYN.out]
      have HRR := hid hr
      clear hr
      go_wp2_with fail
      refine (sign_any xn yn _).mono ?_
      rintro e w2 ⟨rfl, rfl⟩
      go_wp2_with fail
      go_ret
      exact ⟨by rw [HRR.out]; rfl, S1.out.drop.drop⟩
    · have hr : r = ordB xn yn := by rw [HCL.out (by decide) (by decide)]; unfold leafB; rw [HK.out, if_neg (by decide), if_neg (by decide), HXN.out, HYN.out]
      have HRR := hid hr
      clear hr
      go_wp2_with fail
      refine (sign_any xn yn _).mono ?_
      rintro e w2 ⟨rfl, rfl⟩
      go_wp2_with fail
      go_ret
      exact ⟨by rw [HRR.out]; rfl, S1.out.drop.drop⟩
    · have x3 : World.cell? _ ⟨w.heap.size, 3, none⟩ = some (.slice xa nx xc) := S1.out.cell 3
      have y3 : World.cell? _ ⟨w.heap.size + 1, 3, none⟩ = some (.slice ya ny yc) := S1.out.swap.cell 3
      by_cases hl : nx = ny
      · subst hl
        have hr : r = fnz (List.zipWith cmp x.is y.is) := by rw [← HR.out, cmp_eq, if_neg (by rw [HK.out, HK2.out]; simp), if_pos HK.out, if_neg (by rw [HNX.out, HNY.out]; simp)]
        have HRR := hid hr
        clear hr x3 y3
        go_wp2_with fail
        go_loopw [5, 6] (fun iv _ wr => ∃ i : Nat, i ≤ nx ∧ iv = .int .i64 i ∧ Hid (fnz (List.zipWith cmp x.is y.is) = fnz (List.zipWith cmp (x.is.drop i) (y.is.drop i))) ∧ Hid (Sat W wr (blk w.heap.size (.cells #[.int .i64 5, .int .i64 xn, .string xm, .slice xa nx xc, .slice xra xrl xrc, .slice xba xbl xbc] 25 (0, 0)) :: blk (w.heap.size + 1) (.cells #[.int .i64 5, .int .i64 yn, .string ym, .slice ya nx yc, .slice yra yrl yrc, .slice yba ybl ybc] 25 (0, 0)) :: arch h :: L))) (fun iv _ _ => nx - (intOf iv).toNat)
        case atStart => exact ⟨0, Nat.zero_le _, rfl, hid rfl, S1⟩
        case round =>
          obtain ⟨i, hi, rfl, HFN, S⟩ := hrel
          clear S1
          by_cases hlt : i < nx
          · skip
            obtain ⟨x', hx'⟩ : ∃ x', x.is[i]? = some x' := ⟨_, List.getElem?_eq_getElem (by have := HNX.out; omega)⟩
            obtain ⟨y', hy'⟩ : ∃ y', y.is[i]? = some y' := ⟨_, List.getElem?_eq_getElem (by have := HNY.out; omega)⟩
            obtain ⟨gx, ox, xs, rfl, hcx', hinx⟩ := HLX.out.get hx'
            obtain ⟨gy, oy, ys, rfl, hcy', hiny⟩ := HLY.out.get hy'
            have hzi := fnz_at hx' hy'
            have hwx : wt x' + wt y' ≤ N := by
              have h1 := wtP_mem (l := List.zip x.is y.is) (p := (x', y')) (List.mem_of_getElem? (i := i) (by rw [List.getElem?_zip_eq_some]; exact ⟨hx', hy'⟩))
              have h2 := wt_tup x y
              have := HWT.out
              simp only at h1
              omega
            obtain ⟨ia1, ic1, ra1, rc1, ba1, bc1, rfl, _⟩ := id hinx.vals
            obtain ⟨ia2, ic2, ra2, rc2, ba2, bc2, rfl, _⟩ := id hiny.vals
            have HIC := hid (IH.out x' y' hwx (HOX.out.si _ (List.mem_of_getElem? hx')) (HOY.out.si _ (List.mem_of_getElem? hy')) (HFX.out.2.1.mem (List.mem_of_getElem? hx')) (HFY.out.2.1.mem (List.mem_of_getElem? hy')) W _ _ _ _ _ S.out.rot3.drew hinx hiny)
            have HZI := hid hzi
            obtain ⟨cv, HCV⟩ : ∃ cv, Hid (cmp x' y' = cv) := ⟨_, hid rfl⟩
            rw [HCV.out] at HIC HZI
            have sA := S.out.rot3
            have k0 := sA.cellIn (hcx' 0 _ rfl)
            have k1 := sA.cellIn (hcx' 1 _ rfl)
            have k2 := sA.cellIn (hcx' 2 _ rfl)
            have k3 := sA.cellIn (hcx' 3 _ rfl)
            have k4 := sA.cellIn (hcx' 4 _ rfl)
            have k5 := sA.cellIn (hcx' 5 _ rfl)
            have l0 := sA.cellIn (hcy' 0 _ rfl)
            have l1 := sA.cellIn (hcy' 1 _ rfl)
            have l2 := sA.cellIn (hcy' 2 _ rfl)
            have l3 := sA.cellIn (hcy' 3 _ rfl)
            have l4 := sA.cellIn (hcy' 4 _ rfl)
            have l5 := sA.cellIn (hcy' 5 _ rfl)
            rw [Nat.zero_add] at k0 k1 k2 k3 k4 k5 l0 l1 l2 l3 l4 l5
            rw [Nat.add_zero] at k0 l0
            have x3 : wr.cell? ⟨w.heap.size, 3, none⟩ = some (.slice (some ⟨gx, ox, none⟩) nx xc) := S.out.cell 3
            have y3 : wr.cell? ⟨w.heap.size + 1, 3, none⟩ = some (.slice (some ⟨gy, oy, none⟩) nx yc) := S.out.swap.cell 3
            have hi1 : (i : Int) < nx := by omega
            have hi2 : (i : Int) < nx := by omega
            unfold tVals at HIC
            clear sA hcx' hcy' hinx hiny hx' hy' hzi hwx
            go_wp2_with fail
            go_region_law (go_simp; go_at_call 24; refine HIC.out.mono ?_; rintro e w3 ⟨rfl, s3⟩; have S6 := hid s3; clear s3)
            all_goals clear k0 k1 k2 k3 k4 k5 l0 l1 l2 l3 l4 l5 x3 y3 HIC S
            all_goals by_cases hc : cv = 0
            all_goals first
              | (have hz := HFN.out
                 rw [HZI.out, if_pos hc] at hz
                 have HFN2 := hid hz
                 subst hc
                 clear hz
                 go_wp2_with fail
                 go_roundw
                 case rel => exact ⟨i + 1, by omega, by go_num, HFN2, hid S6.out.unrot3⟩
                 case measure => simp [intOf]; omega)
              | (have hz := HFN.out
                 rw [HZI.out, if_neg hc] at hz
                 have hb : (cv == 0) = false := by simpa using hc
                 have hb2 : (cv != 0) = true := by simpa using hc
                 have hrr := HRR.out.trans hz
                 have HR2 := hid hrr
                 clear hz hc hrr
                 go_wp2_with fail
                 go_ret
                 exact ⟨by rw [HR2.out]; rfl, S6.out.unrot3.drop.drop⟩)
          · obtain rfl : i = nx := by omega
            have hz := HFN.out
            rw [List.drop_of_length_le (by rw [HNX.out]; exact Nat.le_refl _)] at hz
            have hrr : r = 0 := HRR.out.trans hz
            have HR2 := hid hrr
            have x3 : wr.cell? ⟨w.heap.size, 3, none⟩ = some (.slice xa i xc) := S.out.cell 3
            clear hz hrr
            go_wp2_with fail
            go_ret
            exact ⟨by rw [HR2.out]; rfl, S.out.drop.drop⟩
      · have hr : r = ordB (nx : Int) ny := by rw [← HR.out, cmp_len HK.out HK2.out (by rw [HNX.out, HNY.out]; exact hl), HNX.out, HNY.out]
        have HRR := hid hr
        have hb : ((nx : Int) != ny) = true := by simp; omega
        have hb2 : (nx != ny) = true := by simp; omega
        clear hr
        go_wp2_with fail
        refine (sign_any (nx : Int) ny _).mono ?_
        rintro e w2 ⟨rfl, rfl⟩
        go_wp2_with fail
        go_ret
        exact ⟨by rw [HRR.out]; rfl, S1.out.drop.drop⟩
    · have hr : r = 0 := by
        rw [HCL.out (by decide) (by decide)]
        unfold leafB
        rw [HK.out, if_neg (by decide), if_neg (by decide), (fl_6 HFX.out.1 HK.out).1, (fl_6 HFY.out.1 HK2.out).1]
        rfl
      have HRR := hid hr
      clear hr
      go_wp2_with fail
      go_ret
      exact ⟨by rw [HRR.out]; rfl, S1.out.drop.drop⟩
    · obtain ⟨nn, hnn⟩ : ∃ nn, nn = min nx ny := ⟨_, rfl⟩
      have hnx : nn ≤ nx := by omega
      have hny : nn ≤ ny := by omega
      have hnm : nn = nx ∨ nn = ny := by omega
      have hwl := wt_list (x := x) (y := y) HK.out HK2.out
      have HLOX := hid (left_ok nn HTX.out)
      have HLOY := hid (left_ok nn HTY.out)
      have HLFX := hid (left_fl nn HFLX.out HK.out)
      have HLFY := hid (left_fl nn HFLY.out HK2.out)
      have hr : r = fnz (List.zipWith cmp x.is y.is ++ [cmp (leftT x nn) (leftT y nn)]) := by rw [← HR.out, cmp_eq, if_neg (by rw [HK.out, HK2.out]; simp), if_neg (by rw [HK.out]; decide), if_pos HK.out, HNX.out, HNY.out, hnn]
      rw [HNX.out, HNY.out, ← hnn] at hwl
      have HLA := hid fun (wx : World) (s : Sat W wx (arch h :: blk w.heap.size (.cells #[.int .i64 7, .int .i64 xn, .string xm, .slice xa nx xc, .slice xra xrl xrc, .slice xba xbl xbc] 25 (0, 0)) :: blk (w.heap.size + 1) (.cells #[.int .i64 7, .int .i64 yn, .string ym, .slice ya ny yc, .slice yra yrl yrc, .slice yba ybl ybc] 25 (0, 0)) :: L)) => leftX_any s x _ nn HIX.out HTX.out (by rw [HNX.out]; exact hnx)
      have HLB := hid fun (wx : World) (s : Sat W wx (arch h :: blk w.heap.size (.cells #[.int .i64 7, .int .i64 xn, .string xm, .slice xa nx xc, .slice xra xrl xrc, .slice xba xbl xbc] 25 (0, 0)) :: blk (w.heap.size + 1) (.cells #[.int .i64 7, .int .i64 yn, .string ym, .slice ya ny yc, .slice yra yrl yrc, .slice yba ybl ybc] 25 (0, 0)) :: L)) => leftX_any s y _ nn HIY.out HTY.out (by rw [HNY.out]; exact hny)
      obtain ⟨lx, HLXE⟩ : ∃ v, Hid (leftT x nn = v) := ⟨_, hid rfl⟩
      obtain ⟨ly, HLYE⟩ : ∃ v, Hid (leftT y nn = v) := ⟨_, hid rfl⟩
      rw [HLXE.out] at HLA HLOX HLFX
      rw [HLYE.out] at HLB HLOY HLFY
      rw [HLXE.out, HLYE.out] at hr hwl
      have HWL := hid hwl
      rw [fnz_append, fnz_one] at hr
      have HRR := hid hr
      clear hr hwl hnn
      go_wp2_with fail
      go_loopw [7, 8] (fun iv _ wr => ∃ i : Nat, i ≤ nn ∧ iv = .int .i64 i ∧ Hid (fnz (List.zipWith cmp x.is y.is) = fnz (List.zipWith cmp (x.is.drop i) (y.is.drop i))) ∧ Hid (Sat W wr (blk w.heap.size (.cells #[.int .i64 7, .int .i64 xn, .string xm, .slice xa nx xc, .slice xra xrl xrc, .slice xba xbl xbc] 25 (0, 0)) :: blk (w.heap.size + 1) (.cells #[.int .i64 7, .int .i64 yn, .string ym, .slice ya ny yc, .slice yra yrl yrc, .slice yba ybl ybc] 25 (0, 0)) :: arch h :: L))) (fun iv _ _ => nn - (intOf iv).toNat)
      case atStart => exact ⟨0, Nat.zero_le _, rfl, hid rfl, S1⟩
      case round =>
        obtain ⟨i, hi, rfl, HFN, S⟩ := hrel
        clear S1
        by_cases hlt : i < nn
        · skip
          obtain ⟨x', hx'⟩ : ∃ x', x.is[i]? = some x' := ⟨_, List.getElem?_eq_getElem (by have := HNX.out; omega)⟩
          obtain ⟨y', hy'⟩ : ∃ y', y.is[i]? = some y' := ⟨_, List.getElem?_eq_getElem (by have := HNY.out; omega)⟩
          obtain ⟨gx, ox, xs, rfl, hcx', hinx⟩ := HLX.out.get hx'
          obtain ⟨gy, oy, ys, rfl, hcy', hiny⟩ := HLY.out.get hy'
          have hzi := fnz_at hx' hy'
          have hwx : wt x' + wt y' ≤ N := by
            have h1 := wtP_mem (l := List.zip x.is y.is) (p := (x', y')) (List.mem_of_getElem? (i := i) (by rw [List.getElem?_zip_eq_some]; exact ⟨hx', hy'⟩))
            have h2 := wt_tup x y
            have := HWT.out
            simp only at h1
            omega
          obtain ⟨ia1, ic1, ra1, rc1, ba1, bc1, rfl, _⟩ := id hinx.vals
          obtain ⟨ia2, ic2, ra2, rc2, ba2, bc2, rfl, _⟩ := id hiny.vals
          have HIC := hid (IH.out x' y' hwx (HOX.out.si _ (List.mem_of_getElem? hx')) (HOY.out.si _ (List.mem_of_getElem? hy')) (HFX.out.2.1.mem (List.mem_of_getElem? hx')) (HFY.out.2.1.mem (List.mem_of_getElem? hy')) W _ _ _ _ _ S.out.rot3.drew hinx hiny)
          have HZI := hid hzi
          obtain ⟨cv, HCV⟩ : ∃ cv, Hid (cmp x' y' = cv) := ⟨_, hid rfl⟩
          rw [HCV.out] at HIC HZI
          have sA := S.out.rot3
          have k0 := sA.cellIn (hcx' 0 _ rfl)
          have k1 := sA.cellIn (hcx' 1 _ rfl)
          have k2 := sA.cellIn (hcx' 2 _ rfl)
          have k3 := sA.cellIn (hcx' 3 _ rfl)
          have k4 := sA.cellIn (hcx' 4 _ rfl)
          have k5 := sA.cellIn (hcx' 5 _ rfl)
          have l0 := sA.cellIn (hcy' 0 _ rfl)
          have l1 := sA.cellIn (hcy' 1 _ rfl)
          have l2 := sA.cellIn (hcy' 2 _ rfl)
          have l3 := sA.cellIn (hcy' 3 _ rfl)
          have l4 := sA.cellIn (hcy' 4 _ rfl)
          have l5 := sA.cellIn (hcy' 5 _ rfl)
          rw [Nat.zero_add] at k0 k1 k2 k3 k4 k5 l0 l1 l2 l3 l4 l5
          rw [Nat.add_zero] at k0 l0
          have x3 : wr.cell? ⟨w.heap.size, 3, none⟩ = some (.slice (some ⟨gx, ox, none⟩) nx xc) := S.out.cell 3
          have y3 : wr.cell? ⟨w.heap.size + 1, 3, none⟩ = some (.slice (some ⟨gy, oy, none⟩) ny yc) := S.out.swap.cell 3
          have hi1 : (i : Int) < nx := by omega
          have hi2 : (i : Int) < ny := by omega
          unfold tVals at HIC
          clear sA hcx' hcy' hinx hiny hx' hy' hzi hwx
          go_wp2_with fail
          go_region_law (go_simp; go_at_call 24; refine HIC.out.mono ?_; rintro e w3 ⟨rfl, s3⟩; have S6 := hid s3; clear s3)
          all_goals clear k0 k1 k2 k3 k4 k5 l0 l1 l2 l3 l4 l5 x3 y3 HIC S
          all_goals by_cases hc : cv = 0
          all_goals first
            | (have hz := HFN.out
               rw [HZI.out, if_pos hc] at hz
               have HFN2 := hid hz
               subst hc
               clear hz
               go_wp2_with fail
               go_roundw
               case rel => exact ⟨i + 1, by omega, by go_num, HFN2, hid S6.out.unrot3⟩
               case measure => simp [intOf]; omega)
            | (have hz := HFN.out
               rw [HZI.out, if_neg hc] at hz
               have hb : (cv == 0) = false := by simpa using hc
               have hb2 : (cv != 0) = true := by simpa using hc
               have hrr := HRR.out
               rw [hz, if_neg hc] at hrr
               have HR2 := hid hrr
               clear hz hc hrr
               go_wp2_with fail
               go_ret
               exact ⟨by rw [HR2.out]; rfl, S6.out.unrot3.drop.drop⟩)
        · obtain rfl : i = nn := by omega
          have hz := HFN.out
          have hd : List.zipWith cmp (x.is.drop i) (y.is.drop i) = [] := by
            rcases hnm with q | q
            · rw [List.drop_of_length_le (by rw [HNX.out]; omega)]; rfl
            · rw [List.drop_of_length_le (l := y.is) (by rw [HNY.out]; omega)]; simp
          have hz := hz.trans (congrArg fnz hd)
          have hz : fnz (List.zipWith cmp x.is y.is) = 0 := hz
          have hrr := HRR.out
          rw [hz, if_pos rfl] at hrr
          have HR2 := hid hrr
          have SS := hid S.out.rot3
          have hx := fun i => (SS.out.swap).cell i
          have hy := fun i => (SS.out.rot3).cell i
          have x0 := hx 0
          have x1 := hx 1
          have x2 := hx 2
          have x3 := hx 3
          have x4 := hx 4
          have x5 := hx 5
          have y0 := hy 0
          have y1 := hy 1
          have y2 := hy 2
          have y3 := hy 3
          have y4 := hy 4
          have y5 := hy 5
          simp only [List.getElem?_toArray, List.getElem?_cons_zero, List.getElem?_cons_succ] at x0 x1 x2 x3 x4 x5 y0 y1 y2 y3 y4 y5
          clear hx hy
          clear hz hd hrr S
          have SD := hid SS.out.drew
          rcases (show (i : Int) < nx ∧ ¬ (i : Int) < ny ∨ ¬ (i : Int) < nx by omega) with ⟨g1, g2⟩ | g1
          all_goals go_wp2_with fail
          all_goals clear SS
          all_goals have SS := SD
          all_goals clear SD
          all_goals go_region_law (first
            | (go_simp
               go_at_call 48
               with_reducible refine (HLA.out _ SS.out).mono ?_
               rintro e w2 ⟨vs1, rfl, q1, s1⟩
               obtain ⟨pa, pc, pra, prc, pba, pbc, rfl, _⟩ := id q1.vals
               have Q1 := hid q1
               clear SS x0 x1 x2 x3 x4 x5 y0 y1 y2 y3 y4 y5
               have SS := hid s1
               have hx := fun i => (SS.out.swap).cell i
               have hy := fun i => (SS.out.rot3).cell i
               have x0 := hx 0
               have x1 := hx 1
               have x2 := hx 2
               have x3 := hx 3
               have x4 := hx 4
               have x5 := hx 5
               have y0 := hy 0
               have y1 := hy 1
               have y2 := hy 2
               have y3 := hy 3
               have y4 := hy 4
               have y5 := hy 5
               simp only [List.getElem?_toArray, List.getElem?_cons_zero, List.getElem?_cons_succ] at x0 x1 x2 x3 x4 x5 y0 y1 y2 y3 y4 y5
               clear hx hy
               unfold tVals at Q1 ⊢
               clear s1 q1)
            | (go_simp
               go_at_call 48
               with_reducible refine (HLB.out _ SS.out).mono ?_
               rintro e w2 ⟨vs1, rfl, q1, s1⟩
               obtain ⟨qa, qc, qra, qrc, qba, qbc, rfl, _⟩ := id q1.vals
               have Q2 := hid q1
               clear SS x0 x1 x2 x3 x4 x5 y0 y1 y2 y3 y4 y5
               have SS := hid s1
               have hx := fun i => (SS.out.swap).cell i
               have hy := fun i => (SS.out.rot3).cell i
               have x0 := hx 0
               have x1 := hx 1
               have x2 := hx 2
               have x3 := hx 3
               have x4 := hx 4
               have x5 := hx 5
               have y0 := hy 0
               have y1 := hy 1
               have y2 := hy 2
               have y3 := hy 3
               have y4 := hy 4
               have y5 := hy 5
               simp only [List.getElem?_toArray, List.getElem?_cons_zero, List.getElem?_cons_succ] at x0 x1 x2 x3 x4 x5 y0 y1 y2 y3 y4 y5
               clear hx hy
               unfold tVals at Q2 ⊢
               clear s1 q1)
            | (go_simp
               go_at_call 24
               refine (IH.out lx ly (by have h1 := HWL.out; have h2 := HWT.out; omega) HLOX.out HLOY.out HLFX.out HLFY.out W _ _ _ _ _ SS.out Q1.out Q2.out).mono ?_
               rintro e w3 ⟨rfl, s3⟩
               have S6 := hid s3
               clear s3 SS))
          all_goals clear x0 x1 x2 x3 x4 x5 y0 y1 y2 y3 y4 y5 HLA HLB
          all_goals go_wp2_with fail
          all_goals go_ret
          all_goals exact ⟨by rw [HR2.out]; rfl, S6.out.unrot3.drop.drop⟩
    · have hr : r = ordS (strOfNums x.bs) (strOfNums y.bs) := by rw [HCL.out (by decide) (by decide)]; unfold leafB; rw [HK.out, if_pos rfl]
      have v1 := fun dst hd => conv_rd (P := Tryd.prog) (src := 23) (dst := dst) (c := xbc) Tryd.underlying23 Tryd.underlying5 hd HXB.out (S1.out.rot3.archRd HBX.out)
      have v2 := fun dst hd => conv_rd (P := Tryd.prog) (src := 23) (dst := dst) (c := ybc) Tryd.underlying23 Tryd.underlying5 hd HYB.out (S1.out.rot3.archRd HBY.out)
      have HRR := hid hr
      clear hr
      go_wp2_with fail
      refine (text_any _ _ _).mono ?_
      rintro e w2 ⟨rfl, rfl⟩
      clear v1 v2
      go_wp2_with fail
      go_ret
      exact ⟨by rw [HRR.out]; rfl, S1.out.drop.drop⟩
  · have hr : r = ordB k k2 := by rw [← HR.out, cmp_kind (by rw [HK.out, HK2.out]; exact hk), HK.out, HK2.out]
    have HRR := hid hr
    clear hr
    go_wp2_with fail
    refine (sign_any k k2 _).mono ?_
    rintro e w2 ⟨rfl, rfl⟩
    go_wp2_with fail
    go_ret
    exact ⟨by rw [HRR.out]; rfl, S1.out.drop.drop⟩
#print axioms compareX_step
end Go.Proofs.YteaabbghnfideaaDoor
