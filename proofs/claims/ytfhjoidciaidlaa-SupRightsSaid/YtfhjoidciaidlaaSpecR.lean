/-
  A SUPERVISOR'S SPEC: the document's own Right; a copy of a spec; the law SupRights.
-/
import Derived.Test.YtfhjoidciaidlaaSupI
import Derived.Test.YtfhjoidciaidlaaSrcN
namespace Go.Proofs.Ytfhjoidciaidlaa
open Go.RowKit
set_option maxHeartbeats 2000000
section
variable {W w : World} {L : List HP} {h : Nat → Option Obj}
theorem elemChd : Elem Try.prog 22 39 3 32 := Elem.mk' Try.underlying22 (z := .agg #[.string ByteArray.empty, .int .i64 0, .int .i64 0]) (by kernel_rfl) rfl (by decide)
theorem oneChs (l : List Chd) : ∀ v ∈ chVals l, v.oneCell' = true := by
  intro v hv
  obtain ⟨x, _, hx⟩ := List.mem_flatMap.1 hv
  exact oneChd x v hx
set_option maxRecDepth 100000 in
theorem spec_any (S : Sat W w (arch h :: L)) (s : Sp) (a : Option Addr) (c : Nat) (hr : RdIn h a (chVals s.ch)) (hc : s.ch.length * 32 ≤ 140737488355328) :
    Calls Try.prog 11 #[specAgg s a c] w fun e w' => ∃ a' c' h', e = .returned (specAgg s a' c') ∧ Le h h' ∧ RdIn h' a' (chVals s.ch) ∧ Sat W w' (arch h' :: L) := by
  obtain ⟨n, HN⟩ : ∃ n, Hid (s.ch.length = n) := ⟨_, hid rfl⟩
  have HR := hid hr
  rw [HN.out] at hc
  have S1 := hid ((S.allocAt (k := w.heap.size) (.cells #[.int .i64 s.strat, .int .i64 s.m, .int .i64 s.t, .slice a n c] 24) rfl).swap)
  have hvl : (chVals s.ch).length = n * 3 := by rw [chVals, flat_length lenChd, HN.out]
  have HVL := hid hvl
  unfold specAgg
  rw [HN.out]
  have S2 := hid (S1.out.allocAt (k := w.heap.size + 1) (.cells #[.int .i64 0, .int .i64 0, .int .i64 0, .slice none 0 0] 24) (by simp))
  obtain ⟨tb, HTB⟩ : ∃ tb, Hid (w.heap.size = tb) := ⟨_, hid rfl⟩
  clear hr S hvl
  go_enter Try.func11, Try.ntmps11
  go_wp2_with (at_builtin; refine wpList_clone_srcN rfl _ _ rfl elemChd rfl S2.out (chVals s.ch) rfl HVL.out (S2.out.swap.archRd HR.out) (oneChs _) (by unfold maxLen; omega) (by omega) ?_; intro a' c' w3 s4 ha' hz; have S4 := hid s4; clear s4; have c3 : w3.cell? ⟨w.heap.size, 3, none⟩ = some (.slice a n c) := S4.out.rot4.cell 3; have f3 := S4.out.rot4.free 3; have S5 := hid (S4.out.rot4.set 3 (.slice a' n c')); have d0 : (w3.setCell ⟨w.heap.size, 3, none⟩ (.slice a' n c')).cell? ⟨w.heap.size, 0, none⟩ = some (.int .i64 s.strat) := S5.out.cell 0; have d1 : (w3.setCell ⟨w.heap.size, 3, none⟩ (.slice a' n c')).cell? ⟨w.heap.size, 1, none⟩ = some (.int .i64 s.m) := S5.out.cell 1; have d2 : (w3.setCell ⟨w.heap.size, 3, none⟩ (.slice a' n c')).cell? ⟨w.heap.size, 2, none⟩ = some (.int .i64 s.t) := S5.out.cell 2; have d3 : (w3.setCell ⟨w.heap.size, 3, none⟩ (.slice a' n c')).cell? ⟨w.heap.size, 3, none⟩ = some (.slice a' n c') := S5.out.cell 3; have S6 := hid S5.out.rot3; have e0 : (w3.setCell ⟨w.heap.size, 3, none⟩ (.slice a' n c')).cell? ⟨w.heap.size + 1, 0, none⟩ = some (.int .i64 0) := S6.out.cell 0; have e1 : (w3.setCell ⟨w.heap.size, 3, none⟩ (.slice a' n c')).cell? ⟨w.heap.size + 1, 1, none⟩ = some (.int .i64 0) := S6.out.cell 1; have e2 : (w3.setCell ⟨w.heap.size, 3, none⟩ (.slice a' n c')).cell? ⟨w.heap.size + 1, 2, none⟩ = some (.int .i64 0) := S6.out.cell 2; have e3 : (w3.setCell ⟨w.heap.size, 3, none⟩ (.slice a' n c')).cell? ⟨w.heap.size + 1, 3, none⟩ = some (.slice none 0 0) := S6.out.cell 3; have g0 : (w3.setCell ⟨w.heap.size, 3, none⟩ (.slice a' n c')).frozen? ⟨w.heap.size + 1, 0, none⟩ = false := S6.out.free 0; have g1 : (w3.setCell ⟨w.heap.size, 3, none⟩ (.slice a' n c')).frozen? ⟨w.heap.size + 1, 1, none⟩ = false := S6.out.free 1; have g2 : (w3.setCell ⟨w.heap.size, 3, none⟩ (.slice a' n c')).frozen? ⟨w.heap.size + 1, 2, none⟩ = false := S6.out.free 2; have g3 : (w3.setCell ⟨w.heap.size, 3, none⟩ (.slice a' n c')).frozen? ⟨w.heap.size + 1, 3, none⟩ = false := S6.out.free 3)
  have s7 := (((S6.out.set 0 (.int .i64 s.strat)).set 1 (.int .i64 s.m)).set 2 (.int .i64 s.t)).set 3 (.slice a' n c')
  obtain ⟨h1, le, hr, s8⟩ := store_row s7.drop.drop
  exact bodyPost_ret (v := .agg #[.int .i64 s.strat, .int .i64 s.m, .int .i64 s.t, .slice a' n c']) (by simp [results, Try.results11, go_sem, e0, e1, e2, e3]) rfl ⟨a', c', h1, rfl, le, hr, s8⟩
set_option maxRecDepth 100000 in
theorem xright (S : Sat W w (arch h :: L)) (s : Sp) (a : Option Addr) (c : Nat) (hr : RdIn h a (chVals s.ch)) (hsz : ∀ x ∈ s.ch, x.f.size ≤ 140737488351232) (hc : s.ch.length ≤ maxLen) :
    Calls Try.prog 12 #[specAgg s a c] w fun e w' => ∃ v h', e = .returned (.pointer v) ∧ Le h h' ∧ XOr h' v 20 s.fault ∧ Sat W w' (arch h' :: L) := by
  obtain ⟨st, m, t, ch⟩ := s
  simp only at hr hsz hc
  unfold maxLen at hc
  have S1 := hid ((S.allocAt (k := w.heap.size) (.cells #[.int .i64 st, .int .i64 m, .int .i64 t, .slice a ch.length c] 24) rfl).swap)
  have HRD := hid hr
  have HSZ := hid hsz
  obtain ⟨n, HN⟩ : ∃ n, Hid (ch.length = n) := ⟨_, rfl⟩
  obtain ⟨ft, HF⟩ : ∃ ft, Hid (Sp.fault ⟨st, m, t, ch⟩ = ft) := ⟨_, rfl⟩
  have hhd : Sp.head ⟨st, m, t, ch⟩ = decide (1 ≤ st ∧ st ≤ 3 ∧ 0 ≤ m ∧ m ≤ 1000 ∧ 1 ≤ t ∧ t ≤ 10000 ∧ 1 ≤ (n : Int) ∧ (n : Int) ≤ 32) := by unfold Sp.head; simp only [HN.out]
  have HHD := hid hhd
  unfold specAgg
  simp only
  rw [HN.out] at hc S1 ⊢
  rw [HF.out]
  clear hr hsz S hhd
  rcases (show ¬ 1 ≤ st ∨ (1 ≤ st ∧ ¬ st ≤ 3) ∨ (1 ≤ st ∧ st ≤ 3 ∧ ¬ 0 ≤ m) ∨ (1 ≤ st ∧ st ≤ 3 ∧ 0 ≤ m ∧ ¬ m ≤ 1000) ∨ (1 ≤ st ∧ st ≤ 3 ∧ 0 ≤ m ∧ m ≤ 1000 ∧ ¬ 1 ≤ t) ∨ (1 ≤ st ∧ st ≤ 3 ∧ 0 ≤ m ∧ m ≤ 1000 ∧ 1 ≤ t ∧ ¬ t ≤ 10000) ∨ (1 ≤ st ∧ st ≤ 3 ∧ 0 ≤ m ∧ m ≤ 1000 ∧ 1 ≤ t ∧ t ≤ 10000 ∧ ¬ 1 ≤ (n : Int)) ∨ (1 ≤ st ∧ st ≤ 3 ∧ 0 ≤ m ∧ m ≤ 1000 ∧ 1 ≤ t ∧ t ≤ 10000 ∧ 1 ≤ (n : Int) ∧ ¬ (n : Int) ≤ 32) ∨ (1 ≤ st ∧ st ≤ 3 ∧ 0 ≤ m ∧ m ≤ 1000 ∧ 1 ≤ t ∧ t ≤ 10000 ∧ 1 ≤ (n : Int) ∧ (n : Int) ≤ 32) by omega) with h1 | ⟨h1, h2⟩ | ⟨h1, h2, h3⟩ | ⟨h1, h2, h3, h4⟩ | ⟨h1, h2, h3, h4, h5⟩ | ⟨h1, h2, h3, h4, h5, h6⟩ | ⟨h1, h2, h3, h4, h5, h6, h7⟩ | ⟨h1, h2, h3, h4, h5, h6, h7, h8⟩ | ⟨h1, h2, h3, h4, h5, h6, h7, h8⟩
  iterate 8
    · have hfa : ft = some [(tSpec, 0)] := by
        rw [← HF.out]
        unfold Sp.fault
        rw [HHD.out, if_neg (by rw [decide_eq_true_eq]; omega)]
      subst hfa
      clear HF HHD
      go_enter Try.func12, Try.ntmps12
      go_wp2_with fail
      refine (k_any S1.out 20).mono ?_
      rintro e w1 ⟨p1, h1', rfl, le, hx, s1⟩
      have HLE := hid le
      have HX := hid hx
      have S2 := hid s1
      clear le hx s1 S1
      go_wp2_with fail
      refine (f_any S2.out tSpec 0 HX.out).mono ?_
      rintro e w1 ⟨p2, h2', rfl, le, hx, s1⟩
      have HLE2 := hid (HLE.out.trans le)
      have HX2 := hid hx
      have S3 := hid s1
      clear le hx s1 S2
      go_wp2_with fail
      go_ret
      exact ⟨_, _, rfl, HLE2.out, HX2.out, S3.out.swap.drop⟩
  · have hhd := HHD.out
    rw [decide_eq_true (by omega)] at hhd
    have HHD2 := hid hhd
    clear HHD hhd
    have hd : decide ((32 : Int) < n) = false := by simpa using h8
    obtain ⟨tb, HTB⟩ : ∃ tb, Hid (w.heap.size = tb) := ⟨_, hid rfl⟩
    rw [HTB.out] at S1
    go_enter Try.func12, Try.ntmps12
    go_wp2_with fail
    rw [HTB.out]
    go_loopw [3] (fun iv wr => ∃ (i : Nat), i ≤ n ∧ iv = .int .i64 i ∧ Hid (∀ j x, j < i → ch[j]? = some x → (!x.ok) = false) ∧ Hid (Sat W wr (arch h :: blk tb (.cells #[.int .i64 st, .int .i64 m, .int .i64 t, .slice a n c] 24 (0, 0)) :: L))) (fun iv _ => n - (intOf iv).toNat)
    case atStart => exact ⟨0, Nat.zero_le _, rfl, hid fun j x hj => by omega, S1⟩
    case round =>
      obtain ⟨i, hi, rfl, HP, S⟩ := hrel
      clear S1
      have q3 : wr.cell? ⟨tb, 3, none⟩ = some (.slice a n c) := S.out.swap.cell 3
      by_cases hlt : i < n
      · obtain ⟨⟨cf, cr, ct⟩, hx⟩ : ∃ x, ch[i]? = some x := ⟨_, List.getElem?_eq_getElem (by rw [HN.out]; exact hlt)⟩
        have hrd := S.out.archRd HRD.out
        obtain ⟨g, off, rfl, e0⟩ := hrd (i * 3 + 0) _ (by rw [chVals, flat_get lenChd hx (by omega)]; rfl)
        obtain ⟨_, _, hg, e1⟩ := hrd (i * 3 + 1) _ (by rw [chVals, flat_get lenChd hx (by omega)]; rfl)
        cases hg
        obtain ⟨_, _, hg, e2⟩ := hrd (i * 3 + 2) _ (by rw [chVals, flat_get lenChd hx (by omega)]; rfl)
        cases hg
        rw [Nat.add_zero] at e0
        rw [← Nat.add_assoc] at e1 e2
        have hsz := HSZ.out _ (List.mem_of_getElem? hx)
        simp only at hsz
        obtain ⟨fl, HFL⟩ : ∃ fl, Hid (cf.size = fl) := ⟨_, hid rfl⟩
        have HX := hid hx
        have S3 := hid (S.out.alloc' (.cells #[.string cf, .int .i64 cr, .int .i64 ct] 39))
        have hok : Chd.ok ⟨cf, cr, ct⟩ = decide (1 ≤ (fl : Int) ∧ (fl : Int) ≤ 255 ∧ 0 ≤ cr ∧ cr ≤ 2 ∧ -1 ≤ ct ∧ ct ≤ 10000) := by unfold Chd.ok; simp only [HFL.out]
        have HOK := hid hok
        clear hrd hx S hok
        have hfl := HFL.out
        rcases (show ¬ 1 ≤ (fl : Int) ∨ (1 ≤ (fl : Int) ∧ ¬ (fl : Int) ≤ 255) ∨ (1 ≤ (fl : Int) ∧ (fl : Int) ≤ 255 ∧ ¬ 0 ≤ cr) ∨ (1 ≤ (fl : Int) ∧ (fl : Int) ≤ 255 ∧ 0 ≤ cr ∧ ¬ cr ≤ 2) ∨ (1 ≤ (fl : Int) ∧ (fl : Int) ≤ 255 ∧ 0 ≤ cr ∧ cr ≤ 2 ∧ ¬ -1 ≤ ct) ∨ (1 ≤ (fl : Int) ∧ (fl : Int) ≤ 255 ∧ 0 ≤ cr ∧ cr ≤ 2 ∧ -1 ≤ ct ∧ ¬ ct ≤ 10000) ∨ (1 ≤ (fl : Int) ∧ (fl : Int) ≤ 255 ∧ 0 ≤ cr ∧ cr ≤ 2 ∧ -1 ≤ ct ∧ ct ≤ 10000) by omega) with g1 | ⟨g1, g2⟩ | ⟨g1, g2, g3⟩ | ⟨g1, g2, g3, g4⟩ | ⟨g1, g2, g3, g4, g5⟩ | ⟨g1, g2, g3, g4, g5, g6⟩ | ⟨g1, g2, g3, g4, g5, g6⟩
        iterate 6
          · have hok : Chd.ok ⟨cf, cr, ct⟩ = false := by rw [HOK.out]; exact decide_eq_false (by omega)
            have hfa : ft = some [(tSpec, 0), (tChild, (i : Int))] := by
              rw [← HF.out]
              unfold Sp.fault
              rw [HHD2.out]
              simp only [findIdx_some HP.out HX.out (by rw [hok]; rfl), if_true]
            have HFA := hid hfa
            clear hfa hok
            go_wp2_with fail
            refine (k_any S3.out 20).mono ?_
            rintro e w1 ⟨p1, h1', rfl, le, hx, s1⟩
            have HLE := hid le
            have HX1 := hid hx
            have S4 := hid s1
            clear le hx s1 S3
            go_wp2_with fail
            refine (f_any S4.out tChild i HX1.out).mono ?_
            rintro e w1 ⟨p2, h2', rfl, le, hx, s1⟩
            have HLE2 := hid (HLE.out.trans le)
            have HX2 := hid hx
            have S5 := hid s1
            clear le hx s1 S4
            go_wp2_with fail
            refine (f_any S5.out tSpec 0 HX2.out).mono ?_
            rintro e w1 ⟨p3, h3', rfl, le, hx, s1⟩
            have HLE3 := hid (HLE2.out.trans le)
            have HX3 := hid hx
            have S6 := hid s1
            clear le hx s1 S5
            go_wp2_with fail
            go_ret
            rw [HFA.out]
            exact ⟨_, _, rfl, HLE3.out, HX3.out, S6.out.swap.drop⟩
        · have hok : Chd.ok ⟨cf, cr, ct⟩ = true := by rw [HOK.out]; exact decide_eq_true (by omega)
          have HOK2 := hid hok
          clear hok
          go_wp2_with fail
          go_roundw
          case rel => exact ⟨i + 1, by omega, by go_num, hid fun j x hj hx' => by
              rcases Nat.lt_or_ge j i with q | q
              · exact HP.out j x q hx'
              · obtain rfl : j = i := by omega
                rw [HX.out] at hx'
                cases hx'
                rw [HOK2.out]; rfl, S3⟩
          case measure => simp [intOf]; omega
      · obtain rfl : i = n := by omega
        have hfa : ft = none := by
          rw [← HF.out]
          unfold Sp.fault
          rw [HHD2.out]
          simp only [findIdx_none HP.out (by rw [HN.out]; exact Nat.le_refl _), if_true]
        have HFA := hid hfa
        clear hfa
        go_wp2_with fail
        go_ret
        rw [HFA.out]
        exact ⟨_, _, rfl, Le.refl _, rfl, S.out.swap.drop⟩
end
end Go.Proofs.Ytfhjoidciaidlaa
