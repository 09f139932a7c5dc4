/-
  The law BoxLong: the Go text answers true, at every input, and turns nothing that was there.
-/
import Derived.Test.YtmfjeplfpljogaaBoxH
namespace Go.Proofs.Ytmfjeplfpljogaa
open Go.RowKit
set_option maxHeartbeats 1000000

def i64s (l : List Int) : List Value := l.map (Value.int .i64)
theorem get_i64s (l : List Int) (i : Nat) (h : i < l.length) : (i64s l)[i]? = some (.int .i64 (l.getD i 0)) := by
  simp [i64s, h]
def rng (H N : Nat) : List Int := (List.range (N - H)).map fun j => Int.ofNat (H + j)
theorem length_rng (H N : Nat) : (rng H N).length = N - H := by simp [rng]
theorem rng_snoc (H N : Nat) (h : H ≤ N) : rng H (N + 1) = rng H N ++ [(N : Int)] := by
  simp only [rng]
  rw [show N + 1 - H = (N - H) + 1 from by omega, List.range_succ, List.map_append]
  simp; omega
theorem getD_rng (H N i : Nat) (h : i < N - H) : (rng H N).getD i 0 = (H : Int) + i := by simp [rng, h]
theorem rng_erase (H N : Nat) (h : H < N) : (rng H N).eraseIdx 0 = rng (H + 1) N := by
  apply List.ext_getElem?
  intro i
  rw [List.getElem?_eraseIdx, if_neg (by omega)]
  simp only [rng, List.getElem?_map]
  by_cases hi : i + 1 < N - H
  · rw [List.getElem?_range hi, List.getElem?_range (by omega)]; simp; omega
  · rw [List.getElem?_eq_none (by simp; omega), List.getElem?_eq_none (by simp; omega)]; rfl

set_option maxRecDepth 100000 in
theorem long_walk (a0 a1 : Option Addr) (n0 n1 c0 c1 : Nat) (xs ys : List Int) (w : World) (hn0 : n0 = xs.length) (hn1 : n1 = ys.length) (h0 : n0 ≤ 9223372036854775807) (r0 : Rd w a0 (i64s xs)) (r1 : Rd w a1 (i64s ys)) :
    Calls Try.prog 4 #[.slice a0 n0 c0, .slice a1 n1 c1] w fun e w' => e = .returned (.bool true) ∧ Below w.heap.size w w' := by
  have HN0 := hid hn0
  have HN1 := hid hn1
  have R0 := hid r0
  have R1 := hid r1
  have HS := hid (Sat.start w)
  clear hn0 hn1 r0 r1
  go_enter Try.func4, Try.ntmps4
  go_wp2_with fail
  obtain ⟨b, hb⟩ : ∃ b, b = w.heap.size := ⟨_, rfl⟩
  have s1 := box_new HS.out
  rw [← hb] at s1 ⊢
  have S1 : Hid (Sat w (w.alloc (.cells #[.slice none 0 0, .int .i64 0, .int .i64 0] 25)) (box b (rng 0 0) 0 0 :: [old w])) := hid s1
  clear s1 hb
  revert S1
  generalize w.alloc (.cells #[.slice none 0 0, .int .i64 0, .int .i64 0] 25) = wa
  intro S1
  go_loopw [6, 7, 8] (fun nx hd i wr => ∃ k N H : Nat, k ≤ 40 ∧ k ≤ n0 ∧ H ≤ N ∧ N ≤ 100 * k ∧ i = .int .i64 k ∧ nx = .int .u64 N ∧ hd = .int .u64 H ∧ Hid (Sat w wr (box b (rng H N) 0 N :: [old w]))) (fun _ _ i _ => 40 - (intOf i).toNat)
  case atStart => exact ⟨0, 0, 0, by omega, by omega, by omega, by omega, rfl, rfl, rfl, S1⟩
  case round =>
    obtain ⟨i, N, H, hi, hin, hHN, hN, rfl, rfl, rfl, S⟩ := hrel
    clear S1
    by_cases hlt : i < n0 ∧ i < 40
    · obtain ⟨hlt1, hlt2⟩ := hlt
      obtain ⟨g, off, rfl, hc⟩ := R0.out i _ (get_i64s xs i (by have := HN0.out; omega))
      obtain ⟨x, HX⟩ : ∃ x, Hid (xs.getD i 0 = x) := ⟨_, rfl⟩
      rw [HX.out] at hc
      obtain ⟨c, hcx⟩ : ∃ c : Nat, x % 100 = c := ⟨(x % 100).toNat, by omega⟩
      have hc100 : c < 100 := by omega
      have HC := hid hcx
      have HCell := hid hc
      clear hcx hc
      obtain ⟨wo, hwo⟩ : ∃ wo : World, wo = wr := ⟨_, rfl⟩
      subst hwo
      have hd1 : decide ((i : Int) < n0) = true := by simp; omega
      have hd2 : decide ((i : Int) < 40) = true := by simp; omega
      go_wp2_with fail
      go_loopw [6, 9] (fun nx q wr => ∃ k : Nat, k ≤ c ∧ q = .int .i64 k ∧ nx = .int .u64 (N + k : Nat) ∧ Hid (Sat w wr (box b (rng H (N + k)) 0 (N + k) :: [old w]))) (fun _ q _ => c - (intOf q).toNat)
      case atStart => exact ⟨0, by omega, rfl, rfl, S⟩
      case round =>
        obtain ⟨k, hk, rfl, rfl, S2⟩ := hrel
        clear S
        have hcw := S2.out.drop.oldCell HCell.out
        by_cases hlt3 : k < c
        · go_wp2_with fail
          refine (place_any x 100 _ (by omega) (by omega)).mono ?_
          rintro e w' ⟨rfl, rfl⟩
          rw [HC.out]
          clear hcw
          go_wp2_with fail
          refine (push_box ((N + k : Nat) : Int) S2.out (by omega)).mono ?_
          rintro e w1 ⟨rfl, s3⟩
          rw [← rng_snoc H (N + k) (by omega)] at s3
          have S3 := hid s3
          clear s3 S2
          go_wp2_with fail
          go_roundw
          case rel => exact ⟨k + 1, by omega, by go_num, by go_num, S3⟩
          case measure => simp [intOf]; omega
        · obtain rfl : k = c := by omega
          go_wp2_with fail
          refine (place_any x 100 _ (by omega) (by omega)).mono ?_
          rintro e w' ⟨rfl, rfl⟩
          rw [HC.out]
          clear hcw
          obtain ⟨M, hM⟩ : ∃ M, M = N + k := ⟨_, rfl⟩
          rw [← hM] at S2 ⊢
          have hM2 : M ≤ 100 * (i + 1) := by omega
          have hM3 : H ≤ M := by omega
          clear hM HC HX HCell
          -- how many are taken
          by_cases hi1 : i < n1
          · obtain ⟨g1, off1, rfl, hc1⟩ := R1.out i _ (get_i64s ys i (by have := HN1.out; omega))
            obtain ⟨y, HY⟩ : ∃ y, Hid (ys.getD i 0 = y) := ⟨_, rfl⟩
            rw [HY.out] at hc1
            obtain ⟨t, htx⟩ : ∃ t : Nat, y % 110 = t := ⟨(y % 110).toNat, by omega⟩
            have HT := hid htx
            have ht110 : t < 110 := by omega
            have hcw1 := S2.out.drop.oldCell hc1
            clear htx hc1
            go_wp2_with fail
            refine (place_any y 110 _ (by omega) (by omega)).mono ?_
            rintro e w' ⟨rfl, rfl⟩
            rw [HT.out]
            clear hcw1
            go_wp2_with fail
            go_loopw [7, 11] (fun hd q wr => ∃ k : Nat, k ≤ t ∧ q = .int .i64 k ∧ hd = .int .u64 (min (H + k) M : Nat) ∧ Hid (Sat w wr (box b (rng (min (H + k) M) M) 0 M :: [old w]))) (fun _ q _ => t - (intOf q).toNat)
            case atStart => exact ⟨0, by omega, rfl, by rw [Nat.min_eq_left (by omega)]; rfl, by rw [Nat.min_eq_left (by omega)]; exact S2⟩
            case round =>
              obtain ⟨k2, hk2, rfl, rfl, S3⟩ := hrel
              clear S2
              by_cases hlt4 : k2 < t
              · by_cases hav : H + k2 < M
                · rw [Nat.min_eq_left (by omega)] at S3 ⊢
                  have htk := take_yes S3.out (by rw [length_rng]; omega)
                  rw [getD_rng _ _ _ (by omega), rng_erase _ _ hav] at htk
                  have hd3 : decide (((H + k2 : Nat) : Int) < M) = true := by simp; omega
                  have hd4 : ((((H + k2 : Nat) : Int) + (0 : Nat)) != ((H + k2 : Nat) : Int)) = false := by simp
                  obtain ⟨V, hV⟩ : ∃ V : Nat, V = H + k2 := ⟨_, rfl⟩
                  rw [← hV] at htk S3 hd3 hd4 hav ⊢
                  have e1 : (V : Int) + (0 : Nat) = V := by omega
                  rw [e1] at htk hd4
                  have HT2 := hid htk
                  have HV := hid hV
                  clear htk S3 hV e1
                  go_wp2_with fail
                  refine HT2.out.mono ?_
                  rintro e w1 ⟨rfl, s4⟩
                  have S4 := hid s4
                  clear s4 HT2
                  go_wp2_with fail
                  go_roundw
                  case rel => exact ⟨k2 + 1, by omega, by go_num, by have := HV.out; rw [Nat.min_eq_left (by omega)]; rw [show H + (k2 + 1) = V + 1 from by omega]; go_num, by have := HV.out; rw [Nat.min_eq_left (by omega), show H + (k2 + 1) = V + 1 from by omega]; exact S4⟩
                  case measure => first | (simp [intOf]; omega) | simp [intOf]
                · rw [Nat.min_eq_right (by omega)] at S3 ⊢
                  have hd3 : decide ((M : Int) < M) = false := by simp
                  have hln : (rng M M).length ≤ 0 := by rw [length_rng]; omega
                  go_wp2_with fail
                  refine (take_no S3.out hln).mono ?_
                  rintro e w1 ⟨rfl, q4, rfl⟩
                  have S4 := hid (S3.out.drewN q4)
                  clear S3 hln
                  go_wp2_with fail
                  go_roundw
                  case rel => exact ⟨k2 + 1, by omega, by go_num, by rw [Nat.min_eq_right (by omega)], by rw [Nat.min_eq_right (by omega)]; exact S4⟩
                  case measure => first | (simp [intOf]; omega) | simp [intOf]
              · obtain rfl : k2 = t := by omega
                obtain ⟨G, hG⟩ : ∃ G : Nat, G = min (H + k2) M := ⟨_, rfl⟩
                rw [← hG] at S3 ⊢
                have hG2 : G ≤ M := by omega
                have hln := len_box S3.out
                rw [length_rng] at hln
                have HLn := hid hln
                have e1 : (M : Int) - G = ((M - G : Nat) : Int) := by omega
                have hd5 : (((M - G : Nat) : Int) != ((M : Int) - G)) = false := by rw [bne_eq_false_iff_eq]; omega
                clear hG hln e1
                go_wp2_with fail
                refine HLn.out.mono ?_
                rintro e w1 ⟨rfl, q5, rfl⟩
                have S4 := hid (S3.out.drewN q5)
                clear S3 HLn
                go_wp2_with fail
                go_roundw
                case rel => exact ⟨i + 1, M, G, by omega, by omega, hG2, by omega, by go_num, rfl, rfl, S4⟩
                case measure => simp [intOf]; omega
          · have hdn : decide ((i : Int) < n1) = false := by simp; omega
            go_wp2_with fail
            go_loopw [7, 11] (fun hd q wr => ∃ k : Nat, k ≤ (0 : Nat) ∧ q = .int .i64 k ∧ hd = .int .u64 (min (H + k) M : Nat) ∧ Hid (Sat w wr (box b (rng (min (H + k) M) M) 0 M :: [old w]))) (fun _ q _ => (0 : Nat) - (intOf q).toNat)
            case atStart => exact ⟨0, by omega, rfl, by rw [Nat.min_eq_left (by omega)]; rfl, by rw [Nat.min_eq_left (by omega)]; exact S2⟩
            case round =>
              obtain ⟨k2, hk2, rfl, rfl, S3⟩ := hrel
              clear S2
              by_cases hlt4 : k2 < (0 : Nat)
              · exact absurd hlt4 (by omega)
              · obtain rfl : k2 = 0 := by omega
                obtain ⟨G, hG⟩ : ∃ G : Nat, G = min (H + 0) M := ⟨_, rfl⟩
                rw [← hG] at S3 ⊢
                have hG2 : G ≤ M := by omega
                have hln := len_box S3.out
                rw [length_rng] at hln
                have HLn := hid hln
                have e1 : (M : Int) - G = ((M - G : Nat) : Int) := by omega
                have hd5 : (((M - G : Nat) : Int) != ((M : Int) - G)) = false := by rw [bne_eq_false_iff_eq]; omega
                clear hG hln e1
                go_wp2_with fail
                refine HLn.out.mono ?_
                rintro e w1 ⟨rfl, q5, rfl⟩
                have S4 := hid (S3.out.drewN q5)
                clear S3 HLn
                go_wp2_with fail
                go_roundw
                case rel => exact ⟨i + 1, M, G, by omega, by omega, hG2, by omega, by go_num, rfl, rfl, S4⟩
                case measure => simp [intOf]; omega
    · have hwords := words_box S.out (by omega)
      rw [length_rng] at hwords
      have HW := hid hwords
      have hd9 : ((((N - H : Nat)) : Int) == ((N : Int) - H)) = true := by rw [beq_iff_eq]; omega
      have HD9 := hid hd9
      clear hwords hd9
      have key : (n0 : Int) ≤ i ∨ ((i : Int) < n0 ∧ (40 : Int) ≤ i) := by
        by_cases q : i < n0
        · exact .inr ⟨by omega, by omega⟩
        · exact .inl (by omega)
      have hHN' : (N : Int) - H = ((N - H : Nat) : Int) := by omega
      obtain ⟨D, hD⟩ : ∃ D : Nat, D = N - H := ⟨_, rfl⟩
      rw [← hD] at HW hHN'
      have hDle : D ≤ 4000 := by omega
      have HND := hid hHN'
      have HD := hid hD
      clear hHN' hD
      rcases key with hd1 | ⟨hd1, hd2⟩
      all_goals
        clear hlt
        go_wp2_with fail
        refine HW.out.mono ?_
        rintro e w1 ⟨a', c', rfl, s4⟩
        have hrd := s4.rowRd
        have S4 := hid s4
        have HR := hid hrd
        clear s4 S hrd HW
        go_wp2_with fail
        go_loopw [15] (fun q wr => ∃ k : Nat, k ≤ D ∧ q = .int .i64 k ∧ ∃ z, wr = w1.drewN z) (fun q _ => D - (intOf q).toNat)
        case atStart => exact ⟨0, by omega, rfl, 0, rfl⟩
        case round =>
          obtain ⟨k, hk, rfl, z, rfl⟩ := hrel
          by_cases hlt5 : k < D
          · obtain ⟨g, off, rfl, hc⟩ := HR.out k _ (get_u64s _ k (by rw [length_rng]; have := HD.out; omega))
            rw [getD_rng _ _ _ (by have := HD.out; omega)] at hc
            have hd6 : ((H : Int) + k != (H : Int) + k) = false := by simp
            have hb6 : H + k ≤ 4000 := by have := HD.out; omega
            go_wp2_with fail
            go_roundw
            case rel => exact ⟨k + 1, by omega, by go_num, _, rfl⟩
            case measure => simp [intOf]; omega
          · obtain rfl : k = D := by omega
            have hd9 : ((k : Int) == (N : Int) - H) = true := by rw [beq_iff_eq, HND.out]
            go_wp2_with fail
            refine (awake_any (S4.out.drewN _)).mono ?_
            rintro e w4 ⟨rfl, s5⟩
            have S5 := hid s5
            clear s5
            go_wp2_with fail
            go_ret
            exact ⟨rfl, S5.out.drop.drop.below⟩
end Go.Proofs.Ytmfjeplfpljogaa
