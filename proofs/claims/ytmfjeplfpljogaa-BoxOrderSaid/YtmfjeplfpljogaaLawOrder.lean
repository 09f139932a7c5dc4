/-
  The law BoxOrder: the Go text answers true, at every input, and turns nothing that was there.
-/
import Derived.Test.YtmfjeplfpljogaaBoxH
import Derived.Test.YtmfjeplfpljogaaOrd
namespace Go.Proofs.Ytmfjeplfpljogaa
open Go.RowKit
set_option maxHeartbeats 2000000

theorem wf_u64 {n : Int} (h : (Lit.int .u64 n).wf = true) : 0 ≤ n ∧ n ≤ 18446744073709551615 := by
  simp [Lit.wf, IntKind.min, IntKind.max, IntKind.signed, IntKind.bits] at h
  omega

set_option maxRecDepth 100000 in
theorem order_walk (a0 : Option Addr) (n0 c0 : Nat) (a1 : Int) (xs : List Int) (w : World) (hn0 : n0 = xs.length) (h0 : n0 ≤ 9223372036854775807) (hc0 : n0 ≤ c0) (r0 : Rd w a0 (u64s xs)) (wf : ∀ x ∈ xs, (Lit.int .u64 x).wf = true) :
    Calls Try.prog 3 #[.slice a0 n0 c0, .int .i64 a1] w fun e w' => e = .returned (.bool true) ∧ Below w.heap.size w w' := by
  obtain ⟨kk, hK⟩ : ∃ kk : Nat, a1 % 3 = kk := ⟨(a1 % 3).toNat, by omega⟩
  have hK2 : kk < 3 := by omega
  have HK := hid hK
  have HN0 := hid hn0
  have R0 := hid r0
  have WF := hid wf
  have HS := hid (Sat.start w)
  clear hK hn0 r0 wf
  by_cases hbig : 300 < n0
  · go_enter Try.func3, Try.ntmps3
    go_wp2_with fail
    generalize hN : (300 : Nat) = N
    have hN1 : N ≤ 300 := by omega
    have hN2 : N ≤ n0 := by omega
    clear hN hbig
    obtain ⟨b, hb⟩ : ∃ b, b = w.heap.size := ⟨_, rfl⟩
    have s1 := box_new HS.out
    rw [← hb] at s1 ⊢
    have S1 : Hid (Sat w (w.alloc (.cells #[.slice none 0 0, .int .i64 0, .int .i64 0] 25)) [box b [] 0 0, row 26 1 none (ks kk []).length 0 (u64s (ks kk [])), row 26 1 none (nk kk []).length 0 (u64s (nk kk [])), old w]) := hid s1.rowNil.rowNil.rot3
    clear s1 hb
    refine (place_any a1 3 _ (by omega) (by omega)).mono ?_
    rintro e w' ⟨rfl, hw⟩
    subst hw
    rw [HK.out]
    revert S1
    generalize w.alloc (.cells #[.slice none 0 0, .int .i64 0, .int .i64 0] 25) = wa
    intro S1
    go_wp2_with fail
    go_loopw [7, 8, 9] (fun wt rs q wr => ∃ (i : Nat) (A B : Option Addr) (ca cb : Nat) (ms : List Int), i ≤ N ∧ q = .int .i64 i ∧ wt = .slice A (ks kk ms).length ca ∧ rs = .slice B (nk kk ms).length cb ∧ ms.length = i ∧ Hid (∀ m ∈ ms, 0 ≤ m ∧ m ≤ 902) ∧ Hid (Sat w wr [box b ms 0 i, row 26 1 A (ks kk ms).length ca (u64s (ks kk ms)), row 26 1 B (nk kk ms).length cb (u64s (nk kk ms)), old w])) (fun _ _ q _ => N - (intOf q).toNat)
    case atStart => exact ⟨0, none, none, 0, 0, [], Nat.zero_le _, rfl, rfl, rfl, rfl, fun m hm => by simp at hm, S1⟩
    case round =>
      obtain ⟨i, A, B, ca, cb, ms, hi, rfl, rfl, rfl, hlen, MB, S⟩ := hrel
      have HL := hid hlen
      have hk9 := ks_le (kk : Int) ms
      have hn9 := nk_le (kk : Int) ms
      rw [hlen] at hk9 hn9
      clear S1 hlen
      by_cases hlt : i < N
      · obtain ⟨g, off, rfl, hc⟩ := R0.out i _ (get_u64s xs i (by have := HN0.out; omega))
        have wx := WF.out (xs.getD i 0) (by rw [List.getD_eq_getElem?_getD, List.getElem?_eq_getElem (by have := HN0.out; omega)]; exact List.getElem_mem _)
        obtain ⟨x, HX⟩ : ∃ x, Hid (xs.getD i 0 = x) := ⟨_, rfl⟩
        rw [HX.out] at hc wx
        obtain ⟨wx1, wx2⟩ := wf_u64 wx
        clear wx
        have hcw := S.out.rot4.oldCell hc
        clear hc
        go_wp2_with fail
        obtain ⟨v, hv⟩ : ∃ v : Int, (i : Int) * 3 + x % 3 = v := ⟨_, rfl⟩
        rw [hv]
        have hv1 : 0 ≤ v ∧ v ≤ 902 := by omega
        obtain ⟨hv1, hv2⟩ := hv1
        clear hcw hv wx1 wx2 HX
        refine (push_box v S.out (by omega)).mono ?_
        rintro e w1 ⟨rfl, s2⟩
        have HM : Hid (∀ m ∈ ms ++ [v], 0 ≤ m ∧ m ≤ 902) := fun m hm => by
          rcases List.mem_append.1 hm with q | q
          · exact MB.out m q
          · simp only [List.mem_singleton] at q; subst q; exact ⟨hv1, hv2⟩
        by_cases hvk : v % 3 = kk
        · have e1 := ks_snoc_yes ms hvk
          have e2 := nk_snoc_yes ms hvk
          have S2 := hid s2.swap
          have E1 := hid e1
          have E2 := hid e2
          clear s2 S e1 e2
          go_wp2_with (at_builtin; refine wpList_push_row rfl _ _ rfl elem64 rfl S2.out (.int .u64 v) rfl (by simp) rfl (by unfold maxLen; omega) (by omega) ?_; intro a' c' w3 s3 ha' hz; have S3 := hid s3.swap; clear s3 S2 ha' hz)
          go_roundw
          case rel => exact ⟨i + 1, a', B, c', cb, ms ++ [v], by omega, by go_num, by rw [E1.out, List.length_append]; rfl, by rw [E2.out], by rw [List.length_append, HL.out]; rfl, HM, by have := S3.out; rw [E1.out, E2.out, List.length_append]; simpa [u64s, Hid] using this⟩
          case measure => simp [intOf]; omega
        · have e1 := ks_snoc_no ms hvk
          have e2 := nk_snoc_no ms hvk
          have S2 := hid s2.rot3
          have E1 := hid e1
          have E2 := hid e2
          clear s2 S e1 e2
          go_wp2_with (at_builtin; refine wpList_push_row rfl _ _ rfl elem64 rfl S2.out (.int .u64 v) rfl (by simp) rfl (by unfold maxLen; omega) (by omega) ?_; intro a' c' w3 s3 ha' hz; have S3 := hid s3.unrot3; clear s3 S2 ha' hz)
          go_roundw
          case rel => exact ⟨i + 1, A, a', ca, c', ms ++ [v], by omega, by go_num, by rw [E1.out], by rw [E2.out, List.length_append]; rfl, by rw [List.length_append, HL.out]; rfl, HM, by have := S3.out; rw [E1.out, E2.out, List.length_append]; simpa [u64s, Hid] using this⟩
          case measure => simp [intOf]; omega
      · obtain rfl : i = N := by omega
        clear hlt hi
        have hm1 : (2 * (i : Int)) * i ≤ 600 * 300 := Int.mul_le_mul (by omega) (by omega) (by omega) (by omega)
        have hm0 : 0 ≤ (2 * (i : Int)) * i := Int.mul_nonneg (by omega) (by omega)
        have hpot : 0 + (ks kk ms).length * ((nk kk ms).length + 1) + ((nk kk ms).length - 0) + 1 ≤ 2 * i * i + 6 := pot_start (by have := ks_nk (kk : Int) ms; rw [HL.out] at this; exact this)
        have S' := hid S.out.swap.rot3
        go_wp2_with fail
        go_loopw [11, 12] (fun gt q wr => ∃ (n at_ : Nat) (G : Option Addr) (cg : Nat) (ys gs : List Int), q = .int .i64 n ∧ gt = .slice G gs.length cg ∧ gs.length ≤ i ∧ ys.length ≤ i ∧ at_ ≤ ys.length ∧ Hid (∀ m ∈ ys, 0 ≤ m ∧ m ≤ 902) ∧ Hid (gs ++ ks kk ys = ks kk ms) ∧ Hid (nk kk ys = nk kk ms) ∧ Hid (ks kk (ys.take at_) = []) ∧
          Hid (n + (ks kk ys).length * ((nk kk ms).length + 1) + ((nk kk ms).length - at_) + 1 ≤ 2 * i * i + 6) ∧ Hid (at_ ≤ (nk kk ms).length) ∧
          Hid (Sat w wr [box b ys at_ i, row 26 1 G gs.length cg (u64s gs), row 26 1 A (ks kk ms).length ca (u64s (ks kk ms)), row 26 1 B (nk kk ms).length cb (u64s (nk kk ms)), old w])) (fun _ q _ => 2 * i * i + 6 - (intOf q).toNat)
        case atStart => exact ⟨0, 0, none, 0, ms, [], rfl, rfl, Nat.zero_le _, by rw [HL.out]; omega, Nat.zero_le _, MB, rfl, rfl, rfl, hpot, Nat.zero_le _, hid S.out.rowNil.swap⟩
        case round =>
          obtain ⟨n, at_, G, cg, ys, gs, rfl, rfl, hgl, hyl, hal, YB, HG, HR, HT, HP', HA, S2⟩ := hrel
          have hnb : n + 1 ≤ 2 * i * i + 6 := by have := HP'.out; omega
          have hnb2 : (n : Int) ≤ 2 * (i : Int) * i + 5 := by
            have : ((2 * i * i : Nat) : Int) = 2 * (i : Int) * i := by simp
            omega
          clear S hpot
          by_cases hat : at_ < ys.length
          · have hpk := peek_yes S2.out hat
            have htk := take_yes S2.out hat
            have yb := YB.out (ys.getD at_ 0) (by rw [List.getD_eq_getElem?_getD, List.getElem?_eq_getElem hat]; exact List.getElem_mem _)
            have hnx := scan_next (k := (kk : Int)) hat HT.out
            have htt := scan_take (k := (kk : Int)) hat HT.out
            obtain ⟨v, HV⟩ : ∃ v, Hid (ys.getD at_ 0 = v) := ⟨_, rfl⟩
            rw [HV.out] at hpk htk yb hnx htt
            obtain ⟨yb1, yb2⟩ := yb
            have HPk := hid hpk
            have HTk := hid htk
            have HNx := hid hnx
            have HTt := hid htt
            clear hpk htk hnx htt
            by_cases hvk : v % 3 = kk
            · have hd : (v % 3 == (kk : Int)) = true := by rw [beq_iff_eq]; exact hvk
              have HVK := hid hvk
              clear hvk
              go_wp2_with fail
              refine HPk.out.mono ?_
              rintro e w1 ⟨rfl, z, rfl⟩
              have S3 := hid (S2.out.drewN z)
              have htk := take_yes S3.out hat
              rw [HV.out] at htk
              have HTk := hid htk
              clear S2 htk HPk
              go_wp2_with fail
              refine HTk.out.mono ?_
              rintro e w2 ⟨rfl, s4⟩
              have S4 := hid s4.swap
              clear s4 S3 HTk
              have hgl2 : gs.length + 1 ≤ i := by
                have h1 := congrArg List.length HG.out
                have h2 := (HTt.out HVK.out).1
                rw [h2, List.length_append, List.length_cons] at h1
                omega
              go_wp2_with (at_builtin; refine wpList_push_row rfl _ _ rfl elem64 rfl S4.out (.int .u64 v) rfl (by simp) rfl (by unfold maxLen; omega) (by omega) ?_; intro a' c' w3 s3 ha' hz; have S5 := hid s3.swap; clear s3 S4 ha' hz)
              go_roundw
              case rel =>
                have ht := HTt.out HVK.out
                refine ⟨n + 1, 0, a', c', ys.eraseIdx at_, gs ++ [v], by go_num, by rw [List.length_append]; rfl, by rw [List.length_append]; simp; omega, by have := List.length_eraseIdx_le ys at_; omega, Nat.zero_le _, fun m hm => YB.out m (List.mem_of_mem_eraseIdx hm), ?_, ht.2.trans HR.out, rfl, ?_, Nat.zero_le _, by have := S5.out; rw [List.length_append]; simpa [u64s, Hid] using this⟩
                · have h1 := HG.out
                  rw [ht.1] at h1
                  show _ = _
                  rw [List.append_assoc]; exact h1
                · have h1 := HP'.out
                  have h2 := congrArg List.length ht.1
                  rw [List.length_cons] at h2
                  rw [h2] at h1
                  exact pot_take h1
              case measure => simp [intOf]; omega
            · have hd : (v % 3 == (kk : Int)) = false := by rw [beq_eq_false_iff_ne]; exact hvk
              have HVK := hid hvk
              clear hvk
              go_wp2_with fail
              refine HPk.out.mono ?_
              rintro e w1 ⟨rfl, z, rfl⟩
              have S3 := hid (S2.out.drewN z)
              clear S2 HPk HTk
              go_wp2_with fail
              refine (next_yes S3.out hat).mono ?_
              rintro e w2 ⟨rfl, s4⟩
              have S4 := hid s4
              clear s4 S3
              go_wp2_with fail
              go_roundw
              case rel =>
                have hn := HNx.out HVK.out
                refine ⟨n + 1, at_ + 1, G, cg, ys, gs, by go_num, rfl, hgl, hyl, hat, YB, HG, HR, hn.1, ?_, ?_, S4⟩
                · have h1 := HP'.out
                  have h2 := hn.2
                  rw [HR.out] at h2
                  show _ ≤ _
                  omega
                · have h2 := hn.2
                  rw [HR.out] at h2
                  exact h2
              case measure => simp [intOf]; omega
          · have hend := scan_end (k := (kk : Int)) (by omega) HT.out
            have e1 : gs = ks kk ms := by have := HG.out; rw [hend.1, List.append_nil] at this; exact this
            have e2 : ys = nk kk ms := by rw [← hend.2]; exact HR.out
            have e3 : at_ = (nk kk ms).length := by rw [← e2]; omega
            have hale : ys.length ≤ at_ := by omega
            have E1 := hid e1
            have E2 := hid e2
            have E3 := hid e3
            clear e1 e2 e3 hend
            go_wp2_with fail
            refine (peek_no S2.out hale).mono ?_
            rintro e w1 ⟨rfl, hw⟩
            have S3 := hid (S2.out.quiet hw)
            clear S2 hw
            have hsw := sameWords_any _ _ _ _ _ cg ca _ _ rfl rfl S3.out.swap.rowRd S3.out.rot3.rowRd (by omega) (by omega)
            rw [decide_eq_true E1.out] at hsw
            have HSw := hid hsw
            clear hsw
            go_wp2_with fail
            refine HSw.out.mono ?_
            rintro e w2 ⟨rfl, hw⟩
            have S3b := hid (S3.out.quiet hw)
            clear S3 hw HSw
            go_wp2_with fail
            refine (words_box S3b.out (by omega)).mono ?_
            rintro e w2 ⟨a', c', rfl, s4⟩
            have hsw2 := sameWords_any _ _ _ _ _ c' cb _ _ rfl rfl s4.rowRd s4.rot5.rowRd (by omega) (by omega)
            rw [decide_eq_true E2.out] at hsw2
            have HSw2 := hid hsw2
            have S4 := hid s4
            clear hsw2 s4 S3b
            go_wp2_with fail
            refine HSw2.out.mono ?_
            rintro e w3 ⟨rfl, hw⟩
            have S5 := hid (S4.out.quiet hw)
            clear S4 hw HSw2
            go_wp2_with fail
            have hat9 := at_box S5.out.drop
            rw [E3.out] at hat9
            refine hat9.mono ?_
            rintro e w4 ⟨rfl, hw⟩
            have S6 := hid (S5.out.quiet hw)
            clear S5 hw
            have hd9 : (((nk (kk : Int) ms).length : Int) == (nk (kk : Int) ms).length) = true := by simp
            clear hat9
            go_wp2_with fail
            refine (awake_any S6.out).mono ?_
            rintro e w5 ⟨rfl, s7⟩
            have S7 := hid s7
            clear s7
            go_wp2_with fail
            go_ret
            exact ⟨rfl, S7.out.drop.drop.drop.drop.drop.below⟩
  · go_enter Try.func3, Try.ntmps3
    go_wp2_with fail
    obtain ⟨N, hN⟩ : ∃ N, N = n0 := ⟨_, rfl⟩
    subst hN
    have hN1 : N ≤ 300 := by omega
    have hN2 : N ≤ N := by omega
    clear hbig
    obtain ⟨b, hb⟩ : ∃ b, b = w.heap.size := ⟨_, rfl⟩
    have s1 := box_new HS.out
    rw [← hb] at s1 ⊢
    have S1 : Hid (Sat w (w.alloc (.cells #[.slice none 0 0, .int .i64 0, .int .i64 0] 25)) [box b [] 0 0, row 26 1 none (ks kk []).length 0 (u64s (ks kk [])), row 26 1 none (nk kk []).length 0 (u64s (nk kk [])), old w]) := hid s1.rowNil.rowNil.rot3
    clear s1 hb
    refine (place_any a1 3 _ (by omega) (by omega)).mono ?_
    rintro e w' ⟨rfl, hw⟩
    subst hw
    rw [HK.out]
    revert S1
    generalize w.alloc (.cells #[.slice none 0 0, .int .i64 0, .int .i64 0] 25) = wa
    intro S1
    go_wp2_with fail
    go_loopw [7, 8, 9] (fun wt rs q wr => ∃ (i : Nat) (A B : Option Addr) (ca cb : Nat) (ms : List Int), i ≤ N ∧ q = .int .i64 i ∧ wt = .slice A (ks kk ms).length ca ∧ rs = .slice B (nk kk ms).length cb ∧ ms.length = i ∧ Hid (∀ m ∈ ms, 0 ≤ m ∧ m ≤ 902) ∧ Hid (Sat w wr [box b ms 0 i, row 26 1 A (ks kk ms).length ca (u64s (ks kk ms)), row 26 1 B (nk kk ms).length cb (u64s (nk kk ms)), old w])) (fun _ _ q _ => N - (intOf q).toNat)
    case atStart => exact ⟨0, none, none, 0, 0, [], Nat.zero_le _, rfl, rfl, rfl, rfl, fun m hm => by simp at hm, S1⟩
    case round =>
      obtain ⟨i, A, B, ca, cb, ms, hi, rfl, rfl, rfl, hlen, MB, S⟩ := hrel
      have HL := hid hlen
      have hk9 := ks_le (kk : Int) ms
      have hn9 := nk_le (kk : Int) ms
      rw [hlen] at hk9 hn9
      clear S1 hlen
      by_cases hlt : i < N
      · obtain ⟨g, off, rfl, hc⟩ := R0.out i _ (get_u64s xs i (by have := HN0.out; omega))
        have wx := WF.out (xs.getD i 0) (by rw [List.getD_eq_getElem?_getD, List.getElem?_eq_getElem (by have := HN0.out; omega)]; exact List.getElem_mem _)
        obtain ⟨x, HX⟩ : ∃ x, Hid (xs.getD i 0 = x) := ⟨_, rfl⟩
        rw [HX.out] at hc wx
        obtain ⟨wx1, wx2⟩ := wf_u64 wx
        clear wx
        have hcw := S.out.rot4.oldCell hc
        clear hc
        go_wp2_with fail
        obtain ⟨v, hv⟩ : ∃ v : Int, (i : Int) * 3 + x % 3 = v := ⟨_, rfl⟩
        rw [hv]
        have hv1 : 0 ≤ v ∧ v ≤ 902 := by omega
        obtain ⟨hv1, hv2⟩ := hv1
        clear hcw hv wx1 wx2 HX
        refine (push_box v S.out (by omega)).mono ?_
        rintro e w1 ⟨rfl, s2⟩
        have HM : Hid (∀ m ∈ ms ++ [v], 0 ≤ m ∧ m ≤ 902) := fun m hm => by
          rcases List.mem_append.1 hm with q | q
          · exact MB.out m q
          · simp only [List.mem_singleton] at q; subst q; exact ⟨hv1, hv2⟩
        by_cases hvk : v % 3 = kk
        · have e1 := ks_snoc_yes ms hvk
          have e2 := nk_snoc_yes ms hvk
          have S2 := hid s2.swap
          have E1 := hid e1
          have E2 := hid e2
          clear s2 S e1 e2
          go_wp2_with (at_builtin; refine wpList_push_row rfl _ _ rfl elem64 rfl S2.out (.int .u64 v) rfl (by simp) rfl (by unfold maxLen; omega) (by omega) ?_; intro a' c' w3 s3 ha' hz; have S3 := hid s3.swap; clear s3 S2 ha' hz)
          go_roundw
          case rel => exact ⟨i + 1, a', B, c', cb, ms ++ [v], by omega, by go_num, by rw [E1.out, List.length_append]; rfl, by rw [E2.out], by rw [List.length_append, HL.out]; rfl, HM, by have := S3.out; rw [E1.out, E2.out, List.length_append]; simpa [u64s, Hid] using this⟩
          case measure => simp [intOf]; omega
        · have e1 := ks_snoc_no ms hvk
          have e2 := nk_snoc_no ms hvk
          have S2 := hid s2.rot3
          have E1 := hid e1
          have E2 := hid e2
          clear s2 S e1 e2
          go_wp2_with (at_builtin; refine wpList_push_row rfl _ _ rfl elem64 rfl S2.out (.int .u64 v) rfl (by simp) rfl (by unfold maxLen; omega) (by omega) ?_; intro a' c' w3 s3 ha' hz; have S3 := hid s3.unrot3; clear s3 S2 ha' hz)
          go_roundw
          case rel => exact ⟨i + 1, A, a', ca, c', ms ++ [v], by omega, by go_num, by rw [E1.out], by rw [E2.out, List.length_append]; rfl, by rw [List.length_append, HL.out]; rfl, HM, by have := S3.out; rw [E1.out, E2.out, List.length_append]; simpa [u64s, Hid] using this⟩
          case measure => simp [intOf]; omega
      · obtain rfl : i = N := by omega
        clear hlt hi
        have hm1 : (2 * (i : Int)) * i ≤ 600 * 300 := Int.mul_le_mul (by omega) (by omega) (by omega) (by omega)
        have hm0 : 0 ≤ (2 * (i : Int)) * i := Int.mul_nonneg (by omega) (by omega)
        have hpot : 0 + (ks kk ms).length * ((nk kk ms).length + 1) + ((nk kk ms).length - 0) + 1 ≤ 2 * i * i + 6 := pot_start (by have := ks_nk (kk : Int) ms; rw [HL.out] at this; exact this)
        have S' := hid S.out.swap.rot3
        go_wp2_with fail
        go_loopw [11, 12] (fun gt q wr => ∃ (n at_ : Nat) (G : Option Addr) (cg : Nat) (ys gs : List Int), q = .int .i64 n ∧ gt = .slice G gs.length cg ∧ gs.length ≤ i ∧ ys.length ≤ i ∧ at_ ≤ ys.length ∧ Hid (∀ m ∈ ys, 0 ≤ m ∧ m ≤ 902) ∧ Hid (gs ++ ks kk ys = ks kk ms) ∧ Hid (nk kk ys = nk kk ms) ∧ Hid (ks kk (ys.take at_) = []) ∧
          Hid (n + (ks kk ys).length * ((nk kk ms).length + 1) + ((nk kk ms).length - at_) + 1 ≤ 2 * i * i + 6) ∧ Hid (at_ ≤ (nk kk ms).length) ∧
          Hid (Sat w wr [box b ys at_ i, row 26 1 G gs.length cg (u64s gs), row 26 1 A (ks kk ms).length ca (u64s (ks kk ms)), row 26 1 B (nk kk ms).length cb (u64s (nk kk ms)), old w])) (fun _ q _ => 2 * i * i + 6 - (intOf q).toNat)
        case atStart => exact ⟨0, 0, none, 0, ms, [], rfl, rfl, Nat.zero_le _, by rw [HL.out]; omega, Nat.zero_le _, MB, rfl, rfl, rfl, hpot, Nat.zero_le _, hid S.out.rowNil.swap⟩
        case round =>
          obtain ⟨n, at_, G, cg, ys, gs, rfl, rfl, hgl, hyl, hal, YB, HG, HR, HT, HP', HA, S2⟩ := hrel
          have hnb : n + 1 ≤ 2 * i * i + 6 := by have := HP'.out; omega
          have hnb2 : (n : Int) ≤ 2 * (i : Int) * i + 5 := by
            have : ((2 * i * i : Nat) : Int) = 2 * (i : Int) * i := by simp
            omega
          clear S hpot
          by_cases hat : at_ < ys.length
          · have hpk := peek_yes S2.out hat
            have htk := take_yes S2.out hat
            have yb := YB.out (ys.getD at_ 0) (by rw [List.getD_eq_getElem?_getD, List.getElem?_eq_getElem hat]; exact List.getElem_mem _)
            have hnx := scan_next (k := (kk : Int)) hat HT.out
            have htt := scan_take (k := (kk : Int)) hat HT.out
            obtain ⟨v, HV⟩ : ∃ v, Hid (ys.getD at_ 0 = v) := ⟨_, rfl⟩
            rw [HV.out] at hpk htk yb hnx htt
            obtain ⟨yb1, yb2⟩ := yb
            have HPk := hid hpk
            have HTk := hid htk
            have HNx := hid hnx
            have HTt := hid htt
            clear hpk htk hnx htt
            by_cases hvk : v % 3 = kk
            · have hd : (v % 3 == (kk : Int)) = true := by rw [beq_iff_eq]; exact hvk
              have HVK := hid hvk
              clear hvk
              go_wp2_with fail
              refine HPk.out.mono ?_
              rintro e w1 ⟨rfl, z, rfl⟩
              have S3 := hid (S2.out.drewN z)
              have htk := take_yes S3.out hat
              rw [HV.out] at htk
              have HTk := hid htk
              clear S2 htk HPk
              go_wp2_with fail
              refine HTk.out.mono ?_
              rintro e w2 ⟨rfl, s4⟩
              have S4 := hid s4.swap
              clear s4 S3 HTk
              have hgl2 : gs.length + 1 ≤ i := by
                have h1 := congrArg List.length HG.out
                have h2 := (HTt.out HVK.out).1
                rw [h2, List.length_append, List.length_cons] at h1
                omega
              go_wp2_with (at_builtin; refine wpList_push_row rfl _ _ rfl elem64 rfl S4.out (.int .u64 v) rfl (by simp) rfl (by unfold maxLen; omega) (by omega) ?_; intro a' c' w3 s3 ha' hz; have S5 := hid s3.swap; clear s3 S4 ha' hz)
              go_roundw
              case rel =>
                have ht := HTt.out HVK.out
                refine ⟨n + 1, 0, a', c', ys.eraseIdx at_, gs ++ [v], by go_num, by rw [List.length_append]; rfl, by rw [List.length_append]; simp; omega, by have := List.length_eraseIdx_le ys at_; omega, Nat.zero_le _, fun m hm => YB.out m (List.mem_of_mem_eraseIdx hm), ?_, ht.2.trans HR.out, rfl, ?_, Nat.zero_le _, by have := S5.out; rw [List.length_append]; simpa [u64s, Hid] using this⟩
                · have h1 := HG.out
                  rw [ht.1] at h1
                  show _ = _
                  rw [List.append_assoc]; exact h1
                · have h1 := HP'.out
                  have h2 := congrArg List.length ht.1
                  rw [List.length_cons] at h2
                  rw [h2] at h1
                  exact pot_take h1
              case measure => simp [intOf]; omega
            · have hd : (v % 3 == (kk : Int)) = false := by rw [beq_eq_false_iff_ne]; exact hvk
              have HVK := hid hvk
              clear hvk
              go_wp2_with fail
              refine HPk.out.mono ?_
              rintro e w1 ⟨rfl, z, rfl⟩
              have S3 := hid (S2.out.drewN z)
              clear S2 HPk HTk
              go_wp2_with fail
              refine (next_yes S3.out hat).mono ?_
              rintro e w2 ⟨rfl, s4⟩
              have S4 := hid s4
              clear s4 S3
              go_wp2_with fail
              go_roundw
              case rel =>
                have hn := HNx.out HVK.out
                refine ⟨n + 1, at_ + 1, G, cg, ys, gs, by go_num, rfl, hgl, hyl, hat, YB, HG, HR, hn.1, ?_, ?_, S4⟩
                · have h1 := HP'.out
                  have h2 := hn.2
                  rw [HR.out] at h2
                  show _ ≤ _
                  omega
                · have h2 := hn.2
                  rw [HR.out] at h2
                  exact h2
              case measure => simp [intOf]; omega
          · have hend := scan_end (k := (kk : Int)) (by omega) HT.out
            have e1 : gs = ks kk ms := by have := HG.out; rw [hend.1, List.append_nil] at this; exact this
            have e2 : ys = nk kk ms := by rw [← hend.2]; exact HR.out
            have e3 : at_ = (nk kk ms).length := by rw [← e2]; omega
            have hale : ys.length ≤ at_ := by omega
            have E1 := hid e1
            have E2 := hid e2
            have E3 := hid e3
            clear e1 e2 e3 hend
            go_wp2_with fail
            refine (peek_no S2.out hale).mono ?_
            rintro e w1 ⟨rfl, hw⟩
            have S3 := hid (S2.out.quiet hw)
            clear S2 hw
            have hsw := sameWords_any _ _ _ _ _ cg ca _ _ rfl rfl S3.out.swap.rowRd S3.out.rot3.rowRd (by omega) (by omega)
            rw [decide_eq_true E1.out] at hsw
            have HSw := hid hsw
            clear hsw
            go_wp2_with fail
            refine HSw.out.mono ?_
            rintro e w2 ⟨rfl, hw⟩
            have S3b := hid (S3.out.quiet hw)
            clear S3 hw HSw
            go_wp2_with fail
            refine (words_box S3b.out (by omega)).mono ?_
            rintro e w2 ⟨a', c', rfl, s4⟩
            have hsw2 := sameWords_any _ _ _ _ _ c' cb _ _ rfl rfl s4.rowRd s4.rot5.rowRd (by omega) (by omega)
            rw [decide_eq_true E2.out] at hsw2
            have HSw2 := hid hsw2
            have S4 := hid s4
            clear hsw2 s4 S3b
            go_wp2_with fail
            refine HSw2.out.mono ?_
            rintro e w3 ⟨rfl, hw⟩
            have S5 := hid (S4.out.quiet hw)
            clear S4 hw HSw2
            go_wp2_with fail
            have hat9 := at_box S5.out.drop
            rw [E3.out] at hat9
            refine hat9.mono ?_
            rintro e w4 ⟨rfl, hw⟩
            have S6 := hid (S5.out.quiet hw)
            clear S5 hw
            have hd9 : (((nk (kk : Int) ms).length : Int) == (nk (kk : Int) ms).length) = true := by simp
            clear hat9
            go_wp2_with fail
            refine (awake_any S6.out).mono ?_
            rintro e w5 ⟨rfl, s7⟩
            have S7 := hid s7
            clear s7
            go_wp2_with fail
            go_ret
            exact ⟨rfl, S7.out.drop.drop.drop.drop.drop.below⟩
end Go.Proofs.Ytmfjeplfpljogaa
