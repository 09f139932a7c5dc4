/-
  THE BOX: SameWords, Swap, and the fixed example (awake).
-/
import Derived.Test.YtmfjeplfpljogaaBoxF
namespace Go.Proofs.Ytmfjeplfpljogaa
open Go.RowKit
set_option maxHeartbeats 400000

theorem same_take {xs ys : List Int} {k : Nat} (hk : k < xs.length) (hk' : k < ys.length) (h : xs.take k = ys.take k) (e : xs.getD k 0 = ys.getD k 0) : xs.take (k + 1) = ys.take (k + 1) := by
  rw [List.take_succ_eq_append_getElem hk, List.take_succ_eq_append_getElem hk', h]
  simp [hk, hk'] at e
  rw [e]

theorem sameWords_any (w : World) (a b : Option Addr) (n m c d : Nat) (xs ys : List Int) (hn : n = xs.length) (hm : m = ys.length) (ha : Rd w a (u64s xs)) (hb : Rd w b (u64s ys)) (hn9 : n ≤ 9223372036854775807) (hm9 : m ≤ 9223372036854775807) :
    Calls Try.prog 13 #[.slice a n c, .slice b m d] w fun e w' => e = .returned (.bool (decide (xs = ys))) ∧ ∃ k, w' = w.drewN k := by
  by_cases hnm : n = m
  · subst hnm
    have hd0 : ((n : Int) != n) = false := by simp
    have hcells : ∀ k, k < n → ∃ g off g' off', a = some ⟨g, off, none⟩ ∧ b = some ⟨g', off', none⟩ ∧ w.cell? ⟨g, off + k, none⟩ = some (.int .u64 (xs.getD k 0)) ∧ w.cell? ⟨g', off' + k, none⟩ = some (.int .u64 (ys.getD k 0)) := by
      intro k hk
      obtain ⟨g, off, e1, e2⟩ := ha k _ (get_u64s xs k (by omega))
      obtain ⟨g', off', e3, e4⟩ := hb k _ (get_u64s ys k (by omega))
      exact ⟨g, off, g', off', e1, e3, e2, e4⟩
    have HC := hid hcells
    have HN := hid hn
    have HM := hid hm
    clear ha hb hn hm hcells
    go_enter Try.func13, Try.ntmps13
    go_wp2
    go_loopw [5] (fun i wr => ∃ k : Nat, k ≤ n ∧ i = .int .i64 k ∧ Hid (xs.take k = ys.take k) ∧ ∃ q, wr = w.drewN q) (fun i _ => n - (intOf i).toNat)
    case atStart => exact ⟨0, Nat.zero_le _, rfl, rfl, 0, rfl⟩
    case round =>
      obtain ⟨k, hk, rfl, HT, q, rfl⟩ := hrel
      by_cases hlt : k < n
      · obtain ⟨g, off, g', off', rfl, rfl, e3, e4⟩ := HC.out k hlt
        obtain ⟨x, HX⟩ : ∃ x, Hid (xs.getD k 0 = x) := ⟨_, rfl⟩
        obtain ⟨y, HY⟩ : ∃ y, Hid (ys.getD k 0 = y) := ⟨_, rfl⟩
        rw [HX.out] at e3
        rw [HY.out] at e4
        by_cases hxy : x = y
        · subst hxy
          have hd : (x != x) = false := by simp
          go_wp2
          go_quiet (fail)
          go_wp2
          go_roundw
          case rel => exact ⟨k + 1, by omega, by go_num, same_take (by have := HN.out; omega) (by have := HM.out; omega) HT.out (HX.out.trans HY.out.symm), _, rfl⟩
          case measure => simp [intOf]; omega
        · have hd : (x != y) = true := by simpa using hxy
          have HD := hid hxy
          clear hxy
          go_wp2
          go_quiet (fail)
          go_wp2
          go_ret
          have hne : decide (xs = ys) = false := by
            rw [decide_eq_false_iff_not]
            intro h
            exact HD.out (by rw [← HX.out, ← HY.out, h])
          rw [hne]
          exact ⟨rfl, _, by rw [World.drewN_drewN]⟩
      · obtain rfl : k = n := by omega
        go_wp2
        go_ret
        have he : decide (xs = ys) = true := by
          rw [decide_eq_true_eq]
          have h1 := HN.out
          have h2 := HM.out
          have h3 := HT.out
          rw [List.take_of_length_le (by omega), List.take_of_length_le (by omega)] at h3
          exact h3
        rw [he]
        exact ⟨rfl, _, rfl⟩
  · have hne : xs ≠ ys := fun q => hnm (by rw [hn, hm, q])
    have hd0 : ((n : Int) != m) = true := by simp; omega
    have hd1 : decide (xs = ys) = false := by simpa using hne
    rw [hd1]
    clear ha hb hn hm hne hd1 hnm
    go_enter Try.func13, Try.ntmps13
    go_wp2
    go_ret
    exact ⟨rfl, 0, rfl⟩

theorem splice_tail {α : Type} (ys : List α) (first : Nat) (zs : List α) (h1 : first ≤ ys.length) (h2 : zs.length = ys.length - first) : (splice ys first zs).drop first = zs := by
  unfold splice
  rw [List.drop_append_of_le_length (by simp; omega), List.drop_take, Nat.sub_self, List.take_zero, List.nil_append, List.drop_of_length_le (by omega), List.append_nil]

section
variable {W w : World} {L : List HP} {b : Nat} {xs : List Int} {at_ m : Nat}
theorem swap_no (s : Sat W w (box b xs at_ m :: L)) (a : Option Addr) (n c : Nat) (h : n ≠ xs.length) :
    Calls Try.prog 19 #[.pointer (some ⟨b, 0, none⟩), .slice a n c] w fun e w' => e = .returned (.bool false) ∧ ∃ k, w' = w.drewN k := by
  have hd : ((n : Int) != xs.length) = true := by simp; omega
  have HS := hid s
  clear s
  go_enter Try.func19, Try.ntmps19
  go_wp2_with (go_at_call 17; refine (len_box HS.out).mono ?_; rintro e w' ⟨rfl, k, rfl⟩)
  go_ret
  exact ⟨rfl, _, rfl⟩
theorem swap_yes (s : Sat W w (box b xs at_ m :: L)) (a : Option Addr) (n c : Nat) (ys : List Int) (h : n = xs.length) (hy : n = ys.length) (hr : Rd w a (u64s ys)) :
    Calls Try.prog 19 #[.pointer (some ⟨b, 0, none⟩), .slice a n c] w fun e w' => e = .returned (.bool true) ∧ Sat W w' (box b ys at_ m :: L) := by
  have hd : ((n : Int) != xs.length) = false := by simp; omega
  obtain ⟨r, s', o, h1, h2, h3⟩ := box_open s
  obtain ⟨c0, c1, c2, fz, le, lm, lc⟩ := id o
  have hl := s'.swap.rowLen
  have hx : xs.length = r.ys.length - r.first := by rw [← h1, List.length_drop]
  have hlen := len_box s
  rcases s'.swap.rowOpen with ⟨ha, hcz, hyz, hyn, s2⟩ | ⟨g, off, cur, ha, s2, h4, h5⟩
  · have hn0 : n = 0 := by omega
    have hf0 : r.first = 0 := by omega
    obtain ⟨ra, rc, rf, rys⟩ := r
    dsimp only at *
    subst hcz ha hf0
    have hys : rys = [] := List.eq_nil_of_length_eq_zero hyz
    subst hys hn0
    have hxn : xs = [] := List.eq_nil_of_length_eq_zero h.symm
    have hyn' : ys = [] := List.eq_nil_of_length_eq_zero hy.symm
    subst hxn hyn'
    have HLen := hid hlen
    have HS := hid s
    have hsz : ((Try.prog).info? 26).map (·.size) = some 1 := by kernel_rfl
    have HSz := hid hsz
    clear hlen s hx hl s2 s' h1 h2 h3 hyz hyn h hy hr fz hsz o
    simp only [List.length_nil] at c0 lm le lc
    go_enter Try.func19, Try.ntmps19
    go_wp2_with (go_at_call 17; refine HLen.out.mono ?_; rintro e w' ⟨rfl, k, rfl⟩)
    refine wp_region_quiet_tail 10 (by kernel_rfl) (by kernel_rfl) ?_
    simp only [List.take_succ_cons, List.take_zero, List.drop_succ_cons, List.drop_zero]
    repeat (go_big_quiet_step (fail))
    refine wpQuiet_nil ?_
    intro _ hw'
    obtain ⟨nk, hw''⟩ := hw'
    subst hw''
    refine wpList_copy_nothing rfl _ _ _ _ rfl _ elem64.under HSz.out _ _ _ _ _ _ rfl rfl rfl ?_
    go_wp2
    go_ret
    exact ⟨rfl, HS.out.drewN _⟩
  · rw [Nat.mul_one] at h4 h5
    rw [ha] at c0
    have HLen := hid hlen
    have HA := hid ha
    have H5 := hid h5
    have HN := hid h
    have HY := hid hy
    have HX := hid hx
    have HL := hid hl
    clear s s' ha h5 h hy hx hl hlen fz h1
    go_enter Try.func19, Try.ntmps19
    go_wp2_with (go_at_call 17; refine HLen.out.mono ?_; rintro e w' ⟨rfl, k, rfl⟩)
    refine wp_region_quiet_tail 10 (by kernel_rfl) (by kernel_rfl) ?_
    simp only [List.take_succ_cons, List.take_zero, List.drop_succ_cons, List.drop_zero]
    repeat (go_big_quiet_step (fail))
    refine wpQuiet_nil ?_
    intro _ hw'
    obtain ⟨nk, hw''⟩ := hw'
    subst hw''
    refine wpList_copy_blk rfl _ _ _ _ rfl elem64 rfl rfl (off + r.first) ((s2.drewN _).drewN _) (u64s ys) ?_ ?_ ?_ (one_u64s ys) ?_
    · rw [length_u64s, ← HY.out, HN.out, HX.out]
      exact (Nat.min_self _).symm
    · intro hp
      rw [length_u64s, ← HY.out, HN.out, HX.out] at hp
      rw [if_neg (by omega)]
      obtain ⟨g', off', e1, e2⟩ := hr.cells (by rw [length_u64s, ← HY.out, HN.out, HX.out]; exact hp)
      refine ⟨rfl, _, e1, fun j v hj => ?_⟩
      obtain ⟨g2, off2, e3, e4⟩ := hr j v hj
      rw [e1] at e3
      simp only [Option.some.injEq, Addr.mk.injEq, and_true] at e3
      obtain ⟨rfl, rfl⟩ := e3
      rw [Addr.add_lit]
      exact e4
    · rw [length_u64s, ← HY.out, HN.out, HX.out]; omega
    generalize (if r.c = r.first then (some ⟨g, off, none⟩ : Option Addr) else some ⟨g, off + r.first, none⟩) = da
    intro w1 s3
    have S3 := hid s3
    clear s3 s2 c0 c1 c2 o hr
    go_wp2
    go_ret
    refine ⟨rfl, ?_⟩
    have hyl : ys.length = r.ys.length - r.first := by rw [← HY.out, HN.out, HX.out]
    have hlen : (splice r.ys r.first ys).length = r.ys.length := length_splice _ _ _ (by omega)
    refine Sat.mkbun (α := BoxR) ⟨some ⟨g, off, none⟩, r.c, r.first, splice r.ys r.first ys⟩ ⟨?_, ?_, ?_, ?_⟩ ?_
    · show r.first ≤ _
      rw [hlen]; omega
    · exact splice_tail _ _ _ le hyl
    · show List.length _ ≤ m
      rw [hlen]; exact h2
    · rw [hyl, ← HX.out]; exact h3
    · show Sat W _ (blk b (.cells #[.slice (some ⟨g, off, none⟩) (List.length _) r.c, _, _] _ _) :: row _ 1 (some ⟨g, off, none⟩) (List.length _) r.c (u64s _) :: L)
      rw [hlen]
      have S4 := S3.out
      rw [HA.out] at S4
      refine (S4.rowMk ?_ HL.out.2.1 HL.out.2.2 ?_ ?_).swap
      · rw [length_u64s, hlen, Nat.mul_one]
      · rw [List.size_toArray, length_splice _ _ _ (by rw [length_u64s, hyl]; simp; omega)]; simpa using h4
      · rw [Nat.mul_one, splice_part _ _ _ _ _ (by rw [length_u64s, hyl]; omega) (by simp; omega), H5.out, u64s, u64s, u64s, map_splice]
end
end Go.Proofs.Ytmfjeplfpljogaa
