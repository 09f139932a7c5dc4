/-
  VetNests: the law's walk.
-/
import Derived.Test.YtohdhckafebmhaaDoorVetX
namespace Go.Proofs.YtohdhckafebmhaaDoor
open Go.RowKit
set_option maxHeartbeats 4000000
set_option maxRecDepth 100000

def nestA (n k j : Nat) : List In := (List.range j).map fun (i : Nat) => (⟨24, ((n + k + 1 + i : Nat) : Int), 0, 0⟩ : In)
theorem nestA_succ (n k j : Nat) : nestA n k (j + 1) = nestA n k j ++ [⟨24, ((n + k + 1 + j : Nat) : Int), 0, 0⟩] := by
  unfold nestA
  rw [List.range_succ, List.map_append]
  rfl
theorem nestsC_eq (n k : Nat) : nestsC n k = nestA n k n ++ List.replicate k ⟨25, 0, 0, 0⟩ ++ [⟨15, 0, 0, 0⟩] ++ List.replicate n ⟨27, 0, 0, 0⟩ := rfl
theorem nests_len (n k : Nat) : (nestsC n k).length = n + k + 1 + n := by unfold nestsC; simp; omega
theorem nests_in (n k : Nat) (h : n < 11) (h2 : k < 11) : ∀ x ∈ nestsC n k, InOk x ∧ x.op ≠ 12 := by
  intro x hx
  unfold nestsC at hx
  simp only [List.mem_append, List.mem_map, List.mem_range, List.mem_replicate, List.mem_singleton] at hx
  rcases hx with ((⟨i, hi, rfl⟩ | ⟨_, rfl⟩) | rfl) | ⟨_, rfl⟩
  · exact ⟨⟨(by decide : fits 24), (show fits ((n + k + 1 + i : Nat) : Int) by unfold fits; omega), (by decide : fits 0), (by decide : fits 0)⟩, by show (24 : Int) ≠ 12; decide⟩
  · exact ⟨⟨by decide, by decide, by decide, by decide⟩, by decide⟩
  · exact ⟨⟨by decide, by decide, by decide, by decide⟩, by decide⟩
  · exact ⟨⟨by decide, by decide, by decide, by decide⟩, by decide⟩
theorem nests_walk {W : World} (a b : Int) : Calls Tryd.prog 5 #[.int .i64 a, .int .i64 b] W fun e w' => e = .returned (.bool true) ∧ Below W.heap.size W w' := by
  obtain ⟨q, HQ⟩ : ∃ q : Nat, Hid (a % 11 = (q : Int)) := ⟨(a % 11).toNat, hid (by omega)⟩
  have hq : q < 11 := by have := HQ.out; omega
  obtain ⟨r, HR⟩ : ∃ r : Nat, Hid (b % 11 = (r : Int)) := ⟨(b % 11).toNat, hid (by omega)⟩
  have hr : r < 11 := by have := HR.out; omega
  have hpl := place_any a 11 W (by omega) (by omega)
  have hpm := place_any b 11 W (by omega) (by omega)
  rw [HQ.out] at hpl
  rw [HR.out] at hpm
  have S1 : Hid (Sat W W (row 36 4 none 0 0 ((nestA q r 0).flatMap InVals) :: [arch (heapOf W)])) := hid ((Sat.startArch W).rowNil (e := 36) (size := 4))
  go_enter Tryd.func5, Tryd.ntmps5
  go_wp2_with fail
  refine hpl.mono ?_
  rintro e w1 ⟨rfl, rfl⟩
  go_wp2_with fail
  refine hpm.mono ?_
  rintro e w1 ⟨rfl, rfl⟩
  go_wp2_with fail
  go_loopw [7, 8] (fun cv iv wr => ∃ (j : Nat) (a : Option Addr) (c : Nat), iv = .int .i64 j ∧ cv = .slice a j c ∧ j ≤ q ∧ Hid (Sat W wr (row 36 4 a j c ((nestA q r j).flatMap InVals) :: [arch (heapOf W)]))) (fun _ iv _ => q - (intOf iv).toNat)
  case atStart => exact ⟨0, none, 0, rfl, rfl, Nat.zero_le _, S1⟩
  case round =>
    obtain ⟨j, pa, c, rfl, rfl, hj, S⟩ := hrel
    clear S1
    by_cases hlt : j < q
    · have hji : ((j : Nat) : Int) < (q : Int) := by omega
      go_wp2_with (at_builtin; refine wpList_pushN rfl _ _ rfl elemIn rfl S.out [.int .i64 24, .int .i64 ((q : Int) + r + 1 + j), .int .i64 0, .int .i64 0] rfl rfl rfl (one4 _ _ _ _) (by unfold maxLen; omega) (by omega) ?_; intro a' c' w3 s4 ha' hz; have S4 := hid s4; clear s4 S)
      go_roundw
      case rel => exact ⟨j + 1, a', c', by go_num, rfl, by omega, hid (by have := S4.out; rw [nestA_succ, ← ins_snoc]; simpa using this)⟩
      case measure => simp [intOf]; omega
    · obtain rfl : j = q := by omega
      have S2 : Hid (Sat W wr (row 36 4 pa j c ((nestA j r j ++ List.replicate 0 (⟨25, 0, 0, 0⟩ : In)).flatMap InVals) :: [arch (heapOf W)])) := hid (by simpa using S.out)
      clear S
      go_wp2_with fail
      go_loopw [7, 9] (fun cv iv wr => ∃ (i : Nat) (a : Option Addr) (c : Nat), iv = .int .i64 i ∧ cv = .slice a (j + i) c ∧ i ≤ r ∧ Hid (Sat W wr (row 36 4 a (j + i) c ((nestA j r j ++ List.replicate i (⟨25, 0, 0, 0⟩ : In)).flatMap InVals) :: [arch (heapOf W)]))) (fun _ iv _ => r - (intOf iv).toNat)
      case atStart => exact ⟨0, pa, c, rfl, rfl, Nat.zero_le _, S2⟩
      case round =>
        obtain ⟨i, pb, c2, rfl, rfl, hi, S⟩ := hrel
        clear S2
        by_cases hlt2 : i < r
        · have hji : ((i : Nat) : Int) < (r : Int) := by omega
          go_wp2_with (at_builtin; refine wpList_pushN rfl _ _ rfl elemIn rfl S.out [.int .i64 25, .int .i64 0, .int .i64 0, .int .i64 0] rfl rfl rfl (one4 _ _ _ _) (by unfold maxLen; omega) (by omega) ?_; intro a' c' w3 s4 ha' hz; have S4 := hid s4; clear s4 S)
          go_roundw
          case rel => exact ⟨i + 1, a', c', by go_num, rfl, by omega, hid (by have := S4.out; rw [← rep_snoc, ← ins_snoc]; exact this)⟩
          case measure => simp [intOf]; omega
        · obtain rfl : i = r := by omega
          go_wp2_with (at_builtin; refine wpList_pushN rfl _ _ rfl elemIn rfl S.out [.int .i64 15, .int .i64 0, .int .i64 0, .int .i64 0] rfl rfl rfl (one4 _ _ _ _) (by unfold maxLen; omega) (by omega) ?_; intro a' c' w3 s4 ha' hz; have S4 := hid s4; clear s4 S)
          have S5 : Hid (Sat W w3 (row 36 4 a' (j + i + 1 + 0) c' ((nestA j i j ++ List.replicate i (⟨25, 0, 0, 0⟩ : In) ++ [(⟨15, 0, 0, 0⟩ : In)] ++ List.replicate 0 (⟨27, 0, 0, 0⟩ : In)).flatMap InVals) :: [arch (heapOf W)])) := hid (by have := S4.out; rw [List.replicate_zero, List.append_nil, ← ins_snoc]; exact this)
          clear S4
          go_wp2_with fail
          go_loopw [7, 10] (fun cv iv wr => ∃ (t : Nat) (a : Option Addr) (c : Nat), iv = .int .i64 t ∧ cv = .slice a (j + i + 1 + t) c ∧ t ≤ j ∧ Hid (Sat W wr (row 36 4 a (j + i + 1 + t) c ((nestA j i j ++ List.replicate i (⟨25, 0, 0, 0⟩ : In) ++ [(⟨15, 0, 0, 0⟩ : In)] ++ List.replicate t (⟨27, 0, 0, 0⟩ : In)).flatMap InVals) :: [arch (heapOf W)]))) (fun _ iv _ => j - (intOf iv).toNat)
          case atStart => exact ⟨0, a', c', rfl, rfl, Nat.zero_le _, S5⟩
          case round =>
            obtain ⟨t, pd, c3, rfl, rfl, ht, S⟩ := hrel
            clear S5
            by_cases hlt3 : t < j
            · have hji : ((t : Nat) : Int) < (j : Int) := by omega
              go_wp2_with (at_builtin; refine wpList_pushN rfl _ _ rfl elemIn rfl S.out [.int .i64 27, .int .i64 0, .int .i64 0, .int .i64 0] rfl rfl rfl (one4 _ _ _ _) (by unfold maxLen; omega) (by omega) ?_; intro a' c' w3 s4 ha' hz; have S4 := hid s4; clear s4 S)
              go_roundw
              case rel => exact ⟨t + 1, a', c', by go_num, rfl, by omega, hid (by have := S4.out; rw [← rep_snoc, ← ins_snoc]; exact this)⟩
              case measure => simp [intOf]; omega
            · obtain rfl : t = j := by omega
              have hrl := S.out.rowLen
              obtain ⟨h1, l1, r1, s1⟩ := store_row S.out
              rw [← nestsC_eq] at r1
              have HO := hid (one_any s1 (nestsC t i) (by rw [nests_len]) r1 ⟨hrl.2.1, hrl.2.2⟩)
              have L1 := hid l1
              have HN := hid (nests_in t i (by omega) (by omega))
              have hnt : t < 11 := by omega
              clear l1 r1 s1 S hrl
              go_wp2_with fail
              refine HO.out.mono ?_
              rintro e w2 ⟨fa, h2, rfl, l2, q2, s2⟩
              have L2 := hid (L1.out.trans l2)
              have HM := hid (vet_one s2 _ q2 (fun x hx => (HN.out x hx).1) (by rw [nests_len]; omega) (fun x hx => (HN.out x hx).2))
              clear HO L1 l2 q2 s2
              go_wp2_with fail
              refine HM.out.mono ?_
              rintro e w3 ⟨vv, h3, rfl, l3, q3, s3⟩
              have L3 := hid (L2.out.trans l3)
              have S3 := hid s3
              have hb := nests_ok ⟨t, hnt⟩ ⟨i, hr⟩
              simp only at hb
              clear HM L2 l3 s3
              obtain ⟨ch, HCH⟩ : ∃ ch, Hid (vetE (oneM (nestsC t i)) = ch) := ⟨_, hid rfl⟩
              rw [HCH.out] at hb q3
              by_cases e1 : t = i ∧ t ≤ 8
              · obtain ⟨e1, e2⟩ := e1
                subst e1
                rw [decide_eq_true ⟨rfl, e2⟩] at hb
                obtain rfl : ch = none := by cases ch with | none => rfl | some p => cases hb
                obtain rfl : vv = .nilIface := q3
                have e2' : ((t : Nat) : Int) ≤ 8 := by omega
                clear hb
                go_wp2_with fail
                refine (awake10 S3.out).mono ?_
                rintro e w4 ⟨h4, rfl, l4, s4⟩
                have L4 := hid (L3.out.trans l4)
                have S4 := hid s4
                clear l4 s4 S3
                go_wp2_with fail
                go_ret
                exact ⟨rfl, S4.out.archBelow L4.out⟩
              · rw [decide_eq_false e1] at hb
                obtain ⟨p, rfl⟩ : ∃ p, ch = some p := by cases ch with | none => cases hb | some p => exact ⟨p, rfl⟩
                obtain ⟨fs, k⟩ := p
                have q4 : ErrIn h3 vv fs k ∧ k ≠ 0 := q3
                obtain ⟨it, ix, rfl⟩ := q4.1.iface
                clear hb q3 q4
                by_cases e3 : t = i
                · have e4 : decide (((t : Nat) : Int) ≤ 8) = false := decide_eq_false (by omega)
                  subst e3
                  go_wp2_with fail
                  refine (awake10 S3.out).mono ?_
                  rintro e w4 ⟨h4, rfl, l4, s4⟩
                  have L4 := hid (L3.out.trans l4)
                  have S4 := hid s4
                  clear l4 s4 S3
                  go_wp2_with fail
                  go_ret
                  exact ⟨rfl, S4.out.archBelow L4.out⟩
                · have e4 : ((t : Int) == (i : Int)) = false := by simp; omega
                  go_wp2_with fail
                  refine (awake10 S3.out).mono ?_
                  rintro e w4 ⟨h4, rfl, l4, s4⟩
                  have L4 := hid (L3.out.trans l4)
                  have S4 := hid s4
                  clear l4 s4 S3
                  go_wp2_with fail
                  go_ret
                  exact ⟨rfl, S4.out.archBelow L4.out⟩
#print axioms nests_walk
end Go.Proofs.YtohdhckafebmhaaDoor
