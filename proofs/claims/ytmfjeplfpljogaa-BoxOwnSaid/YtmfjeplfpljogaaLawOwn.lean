/-
  The law BoxOwn: the Go text answers true, at every input, and turns nothing that was there.
-/
import Derived.Test.YtmfjeplfpljogaaBoxH
namespace Go.Proofs.Ytmfjeplfpljogaa
open Go.RowKit
set_option maxHeartbeats 2000000

theorem u64s_set (l : List Int) (i : Nat) (z : Int) : (u64s l).set i (.int .u64 z) = u64s (l.set i z) := by simp [u64s, List.map_set]

set_option maxRecDepth 100000 in
theorem own_walk (a0 : Option Addr) (n c0 : Nat) (xs : List Int) (w : World) (hn : n = xs.length) (hb : n * 8 ≤ 140737488351232) (r0 : Rd w a0 (u64s xs)) :
    Calls Try.prog 6 #[.slice a0 n c0] w fun e w' => e = .returned (.bool true) ∧ Below w.heap.size w w' := by
  have HN := hid hn
  have R0 := hid r0
  have HS := hid (Sat.start w)
  clear hn r0
  go_enter Try.func6, Try.ntmps6
  go_wp2_with fail
  obtain ⟨b, hb0⟩ : ∃ b, b = w.heap.size := ⟨_, rfl⟩
  obtain ⟨d, hd0⟩ : ∃ d, d = w.heap.size + 1 := ⟨_, rfl⟩
  have s1 := box_new HS.out
  have s2 := box_new s1
  rw [show (w.alloc (.cells #[.slice none 0 0, .int .i64 0, .int .i64 0] 25)).heap.size = d from by rw [hd0]; simp, ← hb0] at s2
  rw [← hb0, show b + 1 = d from by rw [hd0, hb0]]
  have S1 : Hid (Sat w ((w.alloc (.cells #[.slice none 0 0, .int .i64 0, .int .i64 0] 25)).alloc (.cells #[.slice none 0 0, .int .i64 0, .int .i64 0] 25)) [box b [] 0 0, box d [] 0 0, old w]) := hid s2.swap
  clear s1 s2 hb0 hd0
  revert S1
  generalize (w.alloc (.cells #[.slice none 0 0, .int .i64 0, .int .i64 0] 25)).alloc (.cells #[.slice none 0 0, .int .i64 0, .int .i64 0] 25) = wa
  intro S1
  go_loopw [5] (fun q wr => ∃ i : Nat, i ≤ n ∧ q = .int .i64 i ∧ Hid (Sat w wr [box b (xs.take i) 0 i, box d [] 0 0, old w])) (fun q _ => n - (intOf q).toNat)
  case atStart => exact ⟨0, Nat.zero_le _, rfl, S1⟩
  case round =>
    obtain ⟨i, hi, rfl, S⟩ := hrel
    clear S1
    by_cases hlt : i < n
    · obtain ⟨g, off, rfl, hc⟩ := R0.out i _ (get_u64s xs i (by have := HN.out; omega))
      have htk : xs.take (i + 1) = xs.take i ++ [xs.getD i 0] := by
        have := HN.out
        rw [List.take_succ_eq_append_getElem (by omega)]; simp [show i < xs.length by omega]
      obtain ⟨x, HX⟩ : ∃ x, Hid (xs.getD i 0 = x) := ⟨_, rfl⟩
      rw [HX.out] at hc htk
      have hcw := S.out.rot3.oldCell hc
      have HT := hid htk
      clear hc htk
      go_wp2_with fail
      refine (push_box x S.out (by omega)).mono ?_
      rintro e w1 ⟨rfl, s2⟩
      rw [← HT.out] at s2
      have S2 := hid s2
      clear s2 S hcw
      go_wp2_with fail
      go_roundw
      case rel => exact ⟨i + 1, by omega, by go_num, S2⟩
      case measure => simp [intOf]; omega
    · obtain rfl : i = n := by omega
      have hxs : xs.take i = xs := List.take_of_length_le (by have := HN.out; omega)
      rw [hxs] at S
      clear hxs hlt hi
      go_wp2_with fail
      refine (copyWords_any S.out a0 i c0 xs HN.out (R0.out.old S.out.rot3) (by omega)).mono ?_
      rintro e w1 ⟨M, cm, rfl, s2⟩
      have S2 := hid s2.swap
      clear s2 S
      go_wp2_with fail
      refine (swap_yes S2.out M i cm xs HN.out HN.out S2.out.swap.rowRd).mono ?_
      rintro e w2 ⟨rfl, s3⟩
      have S3 : Hid (Sat w w2 [row 26 1 M i cm (u64s xs), box b xs 0 i, box d [] 0 0, old w]) := hid s3.swap
      clear s3 S2
      go_wp2_with fail
      go_loopw [7] (fun q wr => ∃ (k : Nat) (ys : List Int), k ≤ i ∧ q = .int .i64 k ∧ Hid (Sat w wr [row 26 1 M i cm (u64s ys), box b xs 0 i, box d [] 0 0, old w])) (fun q _ => i - (intOf q).toNat)
      case atStart => exact ⟨0, xs, Nat.zero_le _, rfl, S3⟩
      case round =>
        obtain ⟨k, ys, hk, rfl, S4⟩ := hrel
        clear S3
        by_cases hlt : k < i
        · obtain ⟨g, off, rfl, hc, hf⟩ := S4.out.rowCells (by omega)
          have hl := S4.out.rowLen
          have hcell := hc k (by omega)
          rw [get_u64s ys k (by have := hl.1; rw [length_u64s] at this; omega)] at hcell
          have hfr := hf (off + k)
          obtain ⟨y, HY⟩ : ∃ y, Hid (ys.getD k 0 = y) := ⟨_, rfl⟩
          rw [HY.out] at hcell
          clear hc hf hl
          go_wp2_with fail
          have S5 := hid (S4.out.rowSet k (by omega) (.int .u64 (IntKind.u64.wrap (y + 1))))
          go_roundw
          case rel => exact ⟨k + 1, ys.set k (IntKind.u64.wrap (y + 1)), by omega, by go_num, by have := S5.out; rw [u64s_set] at this; exact this⟩
          case measure => simp [intOf]; omega
        · obtain rfl : k = i := by omega
          clear hlt hk
          go_wp2_with fail
          refine (words_box S4.out.swap (by omega)).mono ?_
          rintro e w3 ⟨l, cl, rfl, s5⟩
          rw [← HN.out] at s5 ⊢
          have S5 := hid s5
          clear s5 S4
          go_wp2_with fail
          go_loopw [9] (fun q wr => ∃ (j : Nat) (zs : List Int), j ≤ k ∧ q = .int .i64 j ∧ Hid (Sat w wr [row 26 1 l k cl (u64s zs), box b xs 0 k, row 26 1 M k cm (u64s ys), box d [] 0 0, old w])) (fun q _ => k - (intOf q).toNat)
          case atStart => exact ⟨0, xs, Nat.zero_le _, rfl, S5⟩
          case round =>
            obtain ⟨j, zs, hj, rfl, S6⟩ := hrel
            clear S5
            by_cases hlt : j < k
            · obtain ⟨g, off, rfl, hc, hf⟩ := S6.out.rowCells (by omega)
              have hl := S6.out.rowLen
              have hcell := hc j (by omega)
              rw [get_u64s zs j (by have := hl.1; rw [length_u64s] at this; omega)] at hcell
              have hfr := hf (off + j)
              obtain ⟨y, HY⟩ : ∃ y, Hid (zs.getD j 0 = y) := ⟨_, rfl⟩
              rw [HY.out] at hcell
              clear hc hf hl
              go_wp2_with fail
              have S7 := hid (S6.out.rowSet j (by omega) (.int .u64 (IntKind.u64.wrap (y + 1))))
              go_roundw
              case rel => exact ⟨j + 1, zs.set j (IntKind.u64.wrap (y + 1)), by omega, by go_num, by have := S7.out; rw [u64s_set] at this; exact this⟩
              case measure => simp [intOf]; omega
            · obtain rfl : j = k := by omega
              clear hlt hj
              have hlz := S6.out.rowLen.1
              have HLZ := hid hlz
              clear hlz
              go_wp2_with (at_builtin; refine wpList_append_src rfl _ _ rfl elem64 rfl (S6.out.alloc' _) [.int .u64 5, .int .u64 6, .int .u64 7] rfl rfl (newsRd wr _ _) (one_u64s [5, 6, 7]) (by unfold maxLen; omega) (by omega) ?_; intro a' c' w4 s7 ha' hz; have S7 := hid s7; clear s7 S6 ha' hz)
              refine (push_box 9 S7.out.swap (by omega)).mono ?_
              rintro e w5 ⟨rfl, s8⟩
              have S8 := hid s8
              clear s8 S7
              go_wp2_with fail
              refine (words_box S8.out (by omega)).mono ?_
              rintro e w6 ⟨p, cp, rfl, s9⟩
              have hxl : (xs ++ [9]).length = j + 1 := by rw [List.length_append, HN.out]; rfl
              rw [hxl] at s9 ⊢
              have HXL := hid hxl
              have S9 := hid s9
              clear s9 S8 hxl
              go_wp2_with fail
              refine (copyWords_any S9.out a0 j c0 xs HN.out (R0.out.old S9.out.rot6) (by omega)).mono ?_
              rintro e w7 ⟨q, cq, rfl, s10⟩
              have S10 := hid s10
              clear s10 S9
              go_wp2_with (at_builtin; refine wpList_push_row rfl _ _ rfl elem64 rfl S10.out (.int .u64 9) rfl (by simp) rfl (by unfold maxLen; omega) (by omega) ?_; intro a3 c3 w8 s11 ha3 hz3; have S11 := hid s11; clear s11 S10 ha3 hz3)
              have hsw := sameWords_any w8 p a3 (j + 1) (j + 1) cp c3 (xs ++ [9]) (xs ++ [9]) HXL.out.symm HXL.out.symm S11.out.swap.rowRd (by have := S11.out.rowRd; simpa [u64s] using this) (by omega) (by omega)
              rw [decide_eq_true rfl] at hsw
              refine hsw.mono ?_
              rintro e w9 ⟨rfl, hw⟩
              have S12 := hid (S11.out.quiet hw)
              clear hw S11 hsw
              go_wp2_with fail
              have hln := len_box S12.out.rot6
              refine hln.mono ?_
              rintro e w10 ⟨rfl, hw⟩
              have S13 := hid (S12.out.quiet hw)
              clear hw S12 hln
              have hd3 : (((j + 3 : Nat) : Int) == (j : Int) + 3) = true := by rw [beq_iff_eq]; omega
              go_wp2_with fail
              refine (awake_any S13.out).mono ?_
              rintro e w11 ⟨rfl, s14⟩
              have S14 := hid s14
              clear s14 S13
              go_wp2_with fail
              go_ret
              exact ⟨rfl, S14.out.drop.drop.drop.drop.drop.drop.below⟩
end Go.Proofs.Ytmfjeplfpljogaa
