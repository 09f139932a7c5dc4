/-
  The law BoxPasses: the Go text answers true, at every input, and turns nothing that was there.
-/
import Derived.Test.YtmfjeplfpljogaaBoxH
namespace Go.Proofs.Ytmfjeplfpljogaa
open Go.RowKit
set_option maxHeartbeats 1000000

def ups (n : Nat) : List Int := (List.range n).map Int.ofNat
theorem length_ups (n : Nat) : (ups n).length = n := by simp [ups]
theorem ups_succ (n : Nat) : ups (n + 1) = ups n ++ [(n : Int)] := by simp [ups, List.range_succ]
theorem getD_ups (n i : Nat) (h : i < n) : (ups n).getD i 0 = i := by simp [ups, h]
theorem getD_ups_erase (n p i : Nat) (hp : p < n) (h : i < n - 1) : ((ups n).eraseIdx p).getD i 0 = if i < p then (i : Int) else i + 1 := by
  rw [List.getD_eq_getElem?_getD, List.getElem?_eraseIdx]
  split
  · have := getD_ups n i (by omega)
    rw [List.getD_eq_getElem?_getD] at this; exact this
  · have := getD_ups n (i + 1) (by omega)
    rw [List.getD_eq_getElem?_getD] at this; rw [this]; omega

theorem passes_walk (a0 a1 : Int) (w : World) :
    Calls Try.prog 5 #[.int .i64 a0, .int .i64 a1] w fun e w' => e = .returned (.bool true) ∧ Below w.heap.size w w' := by
  obtain ⟨K, hK⟩ : ∃ K : Nat, a0 % 200 = K := ⟨(a0 % 200).toNat, by omega⟩
  obtain ⟨p, hp⟩ : ∃ p : Nat, a1 % 220 = p := ⟨(a1 % 220).toNat, by omega⟩
  have hK2 : K < 200 := by omega
  have hp2 : p < 220 := by omega
  have HK := hid hK
  have HP' := hid hp
  clear hK hp
  have HS := hid (Sat.start w)
  go_enter Try.func5, Try.ntmps5
  go_wp2_with fail
  refine (place_any a0 200 _ (by omega) (by omega)).mono ?_
  rintro e w' ⟨rfl, rfl⟩
  rw [HK.out]
  go_wp2_with fail
  refine (place_any a1 220 _ (by omega) (by omega)).mono ?_
  rintro e w' ⟨rfl, rfl⟩
  rw [HP'.out]
  go_wp2_with fail
  obtain ⟨b, hb⟩ : ∃ b, b = w.heap.size := ⟨_, rfl⟩
  have s1 := box_new HS.out
  rw [← hb] at s1 ⊢
  have S1 : Hid (Sat w (w.alloc (.cells #[.slice none 0 0, .int .i64 0, .int .i64 0] 25)) (box b (ups 0) 0 0 :: [old w])) := hid s1
  clear s1 hb
  revert S1
  generalize w.alloc (.cells #[.slice none 0 0, .int .i64 0, .int .i64 0] 25) = wa
  intro S1
  go_loopw [8] (fun i wr => ∃ k : Nat, k ≤ K ∧ i = .int .i64 k ∧ Hid (Sat w wr (box b (ups k) 0 k :: [old w]))) (fun i _ => K - (intOf i).toNat)
  case atStart => exact ⟨0, Nat.zero_le _, rfl, S1⟩
  case round =>
    obtain ⟨k, hk, rfl, S⟩ := hrel
    by_cases hlt : k < K
    · go_wp2_with fail
      refine (push_box (k : Int) S.out (by omega)).mono ?_
      rintro e w1 ⟨rfl, s2⟩
      rw [← ups_succ] at s2
      have S2 := hid s2
      clear s2 S
      go_wp2_with fail
      go_roundw
      case rel => exact ⟨k + 1, by omega, by go_num, S2⟩
      case measure => simp [intOf]; omega
    · obtain rfl : k = K := by omega
      clear S1
      go_wp2_with fail
      go_loopw [9] (fun i wr => ∃ j : Nat, j ≤ p ∧ i = .int .i64 j ∧ Hid (Sat w wr (box b (ups k) (min j k) k :: [old w]))) (fun i _ => p - (intOf i).toNat)
      case atStart => exact ⟨0, Nat.zero_le _, rfl, by rw [Nat.zero_min]; exact S⟩
      case round =>
        obtain ⟨j, hj, rfl, S2⟩ := hrel
        clear S
        by_cases hlt2 : j < p
        · by_cases hjk : j < k
          · rw [Nat.min_eq_left (by omega)] at S2
            have hnx := next_yes S2.out (by rw [length_ups]; exact hjk)
            rw [length_ups] at hnx
            have HN := hid hnx
            clear hnx
            by_cases hjk2 : j + 1 < k
            · have hd : decide (j + 1 < k) = true := by simpa using hjk2
              have hd2 : decide ((j : Int) + 1 < k) = true := by simp; omega
              go_wp2_with fail
              refine HN.out.mono ?_
              rintro e w1 ⟨rfl, s3⟩
              rw [show j + 1 = min (j + 1) k from by omega] at s3
              have S3 := hid s3
              clear s3 S2 HN
              go_wp2_with fail
              go_roundw
              case rel => exact ⟨j + 1, by omega, by go_num, S3⟩
              case measure => simp [intOf]; omega
            · have hd : decide (j + 1 < k) = false := by simpa using hjk2
              have hd2 : decide ((j : Int) + 1 < k) = false := by simp; omega
              go_wp2_with fail
              refine HN.out.mono ?_
              rintro e w1 ⟨rfl, s3⟩
              rw [show j + 1 = min (j + 1) k from by omega] at s3
              have S3 := hid s3
              clear s3 S2 HN
              go_wp2_with fail
              go_roundw
              case rel => exact ⟨j + 1, by omega, by go_num, S3⟩
              case measure => simp [intOf]; omega
          · rw [Nat.min_eq_right (by omega)] at S2
            have hd2 : decide ((j : Int) + 1 < k) = false := by simp; omega
            go_wp2_with fail
            refine (next_no S2.out (by rw [length_ups]; omega)).mono ?_
            rintro e w1 ⟨rfl, q, rfl⟩
            have s3 := S2.out.drewN q
            rw [show box b (ups k) k k = box b (ups k) (min (j + 1) k) k from by rw [Nat.min_eq_right (by omega)]] at s3
            have S3 := hid s3
            clear s3 S2
            go_wp2_with fail
            go_roundw
            case rel => exact ⟨j + 1, by omega, by go_num, S3⟩
            case measure => simp [intOf]; omega
        · obtain rfl : j = p := by omega
          by_cases hpk : j < k
          · rw [Nat.min_eq_left (by omega)] at S2
            have htk := take_yes S2.out (by rw [length_ups]; exact hpk)
            rw [getD_ups k j hpk] at htk
            have hd : decide ((j : Int) < k) = true := by simp; omega
            have hd2 : ((j : Int) != j) = false := by simp
            have HT := hid htk
            have hlen : ((ups k).eraseIdx j).length = k - 1 := by rw [List.length_eraseIdx, length_ups, if_pos hpk]
            have HLn := hid hlen
            clear htk S2 hlen
            go_wp2_with fail
            refine HT.out.mono ?_
            rintro e w1 ⟨rfl, s3⟩
            have S3 := hid s3
            clear s3 HT
            go_wp2_with fail
            refine (words_box S3.out (by omega)).mono ?_
            rintro e w2 ⟨a', c', rfl, s4⟩
            have hrd := s4.rowRd
            rw [HLn.out] at s4 ⊢
            have S4 := hid s4
            have HR := hid hrd
            clear s4 S3 hrd
            go_wp2_with fail
            go_loopw [14] (fun i wr => ∃ m : Nat, m ≤ k - 1 ∧ i = .int .i64 m ∧ ∃ q, wr = w2.drewN q) (fun i _ => k - 1 - (intOf i).toNat)
            case atStart => exact ⟨0, Nat.zero_le _, rfl, 0, rfl⟩
            case round =>
              obtain ⟨m, hm, rfl, q, rfl⟩ := hrel
              by_cases hlt3 : m < k - 1
              · obtain ⟨g, off, rfl, hc⟩ := HR.out m _ (get_u64s _ m (by have := HLn.out; omega))
                rw [getD_ups_erase k j m hpk hlt3] at hc
                by_cases hmj : m < j
                · rw [if_pos hmj] at hc
                  have hd3 : ((m : Int) != m) = false := by simp
                  have hd4 : decide ((j : Int) ≤ m) = false := by simp; omega
                  go_wp2_with fail
                  go_roundw
                  case rel => exact ⟨m + 1, by omega, by go_num, _, rfl⟩
                  case measure => simp [intOf]; omega
                · rw [if_neg hmj] at hc
                  have hd3 : ((m : Int) + 1 != m + 1) = false := by simp
                  have hd4 : decide ((j : Int) ≤ m) = true := by simp; omega
                  go_wp2_with fail
                  go_roundw
                  case rel => exact ⟨m + 1, by omega, by go_num, _, rfl⟩
                  case measure => simp [intOf]; omega
              · obtain rfl : m = k - 1 := by omega
                have hk1 : ((k - 1 : Nat) : Int) = (k : Int) - 1 := by omega
                have hd3 : (((k - 1 : Nat) : Int) == (k : Int) - 1) = true := by simp; omega
                have hk1' := hid hk1
                clear hk1
                go_wp2_with fail
                refine (at_box (S4.out.drewN q).drop).mono ?_
                rintro e w3 ⟨rfl, q2, rfl⟩
                go_wp2_with fail
                refine (awake_any (S4.out.drewN _)).mono ?_
                rintro e w4 ⟨rfl, s5⟩
                have S5 := hid s5
                clear s5
                go_wp2_with fail
                go_ret
                exact ⟨rfl, S5.out.drop.drop.below⟩
          · rw [Nat.min_eq_right (by omega)] at S2
            have hd : decide ((j : Int) < k) = false := by simp; omega
            have hd2 : ((k : Int) == k) = true := by simp
            have htk := take_no S2.out (by rw [length_ups]; omega)
            have hln := len_box S2.out
            rw [length_ups] at hln
            have HT := hid htk
            clear htk
            by_cases hkj : k < j
            · have hd3 : decide ((k : Int) < j) = true := by simp; omega
              go_wp2_with fail
              refine HT.out.mono ?_
              rintro e w1 ⟨rfl, q, rfl⟩
              have hln := len_box (S2.out.drewN q)
              rw [length_ups] at hln
              have HL := hid hln
              clear hln HT
              go_wp2_with fail
              refine HL.out.mono ?_
              rintro e w1 ⟨rfl, q2, rfl⟩
              go_wp2_with fail
              refine (at_box (S2.out.drewN _)).mono ?_
              rintro e w3 ⟨rfl, q3, rfl⟩
              go_wp2_with fail
              refine (awake_any (S2.out.drewN _)).mono ?_
              rintro e w4 ⟨rfl, s5⟩
              have S5 := hid s5
              clear s5
              go_wp2_with fail
              go_ret
              exact ⟨rfl, S5.out.drop.below⟩
            · obtain rfl : j = k := by omega
              have hd3 : decide ((j : Int) < j) = false := by simp
              go_wp2_with fail
              refine HT.out.mono ?_
              rintro e w1 ⟨rfl, q, rfl⟩
              have hln := len_box (S2.out.drewN q)
              rw [length_ups] at hln
              have HL := hid hln
              clear hln HT
              go_wp2_with fail
              refine HL.out.mono ?_
              rintro e w1 ⟨rfl, q2, rfl⟩
              go_wp2_with fail
              refine (at_box (S2.out.drewN _)).mono ?_
              rintro e w3 ⟨rfl, q3, rfl⟩
              go_wp2_with fail
              refine (awake_any (S2.out.drewN _)).mono ?_
              rintro e w4 ⟨rfl, s5⟩
              have S5 := hid s5
              clear s5
              go_wp2_with fail
              go_ret
              exact ⟨rfl, S5.out.drop.below⟩
end Go.Proofs.Ytmfjeplfpljogaa
