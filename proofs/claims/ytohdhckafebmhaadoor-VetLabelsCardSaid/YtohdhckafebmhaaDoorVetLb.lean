/-
  VetLabels: the law's walk.
-/
import Derived.Test.YtohdhckafebmhaaDoorVetX
namespace Go.Proofs.YtohdhckafebmhaaDoor
open Go.RowKit
set_option maxHeartbeats 4000000
set_option maxRecDepth 100000

theorem labels_ok (k : Nat) (l : Int) (f : Bool) (hl : fits l) : ∀ x ∈ labelsC k l f, InOk x ∧ x.op ≠ 12 := by
  intro x hx
  unfold labelsC at hx
  simp only [List.mem_append, List.mem_replicate, List.mem_cons, List.not_mem_nil, or_false] at hx
  rcases hx with ⟨_, rfl⟩ | rfl | rfl
  · exact ⟨⟨by decide, by decide, by decide, by decide⟩, by decide⟩
  · exact ⟨⟨(by decide : fits 5), (by decide : fits 0), (by decide : fits 0), hl⟩, (by decide : (5 : Int) ≠ 12)⟩
  · cases f <;> exact ⟨⟨by decide, by decide, by decide, by decide⟩, by decide⟩
theorem labelsC_eq (k : Nat) (l : Int) (f : Bool) : labelsC k l f = [] ++ List.replicate k ⟨40, 0, 0, 0⟩ ++ [⟨5, 0, 0, l⟩] ++ [if f then ⟨40, 0, 0, 0⟩ else ⟨15, 0, 0, 0⟩] := by unfold labelsC; simp
theorem labels_walk {W : World} (a b : Int) (fl : Bool) (hfb : fits b) : Calls Tryd.prog 7 #[.int .i64 a, .int .i64 b, .bool fl] W fun e w' => e = .returned (.bool true) ∧ Below W.heap.size W w' := by
  obtain ⟨q, HQ⟩ : ∃ q : Nat, Hid (a % 10 = (q : Int)) := ⟨(a % 10).toNat, hid (by omega)⟩
  have hq : q < 10 := by have := HQ.out; omega
  have hpl := place_any a 10 W (by omega) (by omega)
  rw [HQ.out] at hpl
  have HFB := hid hfb
  have S1 : Hid (Sat W W (row 36 4 none 0 0 (([] ++ List.replicate 0 (⟨40, 0, 0, 0⟩ : In)).flatMap InVals) :: [arch (heapOf W)])) := hid ((Sat.startArch W).rowNil (e := 36) (size := 4))
  clear hfb
  go_enter Tryd.func7, Tryd.ntmps7
  go_wp2_with fail
  refine hpl.mono ?_
  rintro e w1 ⟨rfl, rfl⟩
  clear hpl
  go_wp2_with fail
  go_loopw [8, 9] (fun cv iv wr => ∃ (j : Nat) (a : Option Addr) (c : Nat), iv = .int .i64 j ∧ cv = .slice a j c ∧ j ≤ 1 + q ∧ Hid (Sat W wr (row 36 4 a j c (([] ++ List.replicate j (⟨40, 0, 0, 0⟩ : In)).flatMap InVals) :: [arch (heapOf W)]))) (fun _ iv _ => 1 + q - (intOf iv).toNat)
  case atStart => exact ⟨0, none, 0, rfl, rfl, Nat.zero_le _, S1⟩
  case round =>
    obtain ⟨j, pa, c, rfl, rfl, hj, S⟩ := hrel
    clear S1
    by_cases hlt : j < 1 + q
    · have hji : ((j : Nat) : Int) < 1 + (q : Int) := by omega
      go_wp2_with (at_builtin; refine wpList_pushN rfl _ _ rfl elemIn rfl S.out [.int .i64 40, .int .i64 0, .int .i64 0, .int .i64 0] rfl rfl rfl (one4 _ _ _ _) (by unfold maxLen; omega) (by omega) ?_; intro a' c' w3 s4 ha' hz; have S4 := hid s4; clear s4 S)
      go_roundw
      case rel => exact ⟨j + 1, a', c', by go_num, rfl, by omega, hid (by have := S4.out; rw [← rep_snoc, ← ins_snoc]; exact this)⟩
      case measure => simp [intOf]; omega
    · obtain rfl : j = 1 + q := by omega
      cases fl with
      | true =>
        go_wp2_with (at_builtin; first
          | (refine wpList_pushN rfl _ _ rfl elemIn rfl S.out [.int .i64 5, .int .i64 0, .int .i64 0, .int .i64 b] rfl rfl rfl (one4 _ _ _ _) (by unfold maxLen; omega) (by omega) ?_; intro a' c' w3 s4 ha' hz; have S4 := hid s4; clear s4 S)
          | (refine wpList_pushN rfl _ _ rfl elemIn rfl S4.out [.int .i64 40, .int .i64 0, .int .i64 0, .int .i64 0] rfl rfl rfl (one4 _ _ _ _) (by unfold maxLen; omega) (by omega) ?_; intro a2 c2 w4 s5 ha2 hz2; have S5 := hid s5; clear s5 S4))
        have S6 : Hid (Sat W w4 (row 36 4 a2 (1 + q + 1 + 1) c2 ((labelsC (1 + q) b true).flatMap InVals) :: [arch (heapOf W)])) := hid (by have := S5.out; rw [labelsC_eq, if_pos rfl, ← ins_snoc, ← ins_snoc]; exact this)
        have hrl := S6.out.rowLen
        obtain ⟨h1, l1, r1, s1⟩ := store_row S6.out
        have HO := hid (one_any s1 (labelsC (1 + q) b true) (by rw [labels_len]) r1 ⟨hrl.2.1, hrl.2.2⟩)
        have L1 := hid l1
        have HN := hid (labels_ok (1 + q) b true HFB.out)
        clear l1 r1 s1 S5 S6 hrl
        go_wp2_with fail
        refine HO.out.mono ?_
        rintro e w5 ⟨fa, h2, rfl, l2, q2, s2⟩
        have L2 := hid (L1.out.trans l2)
        have HM := hid (vet_one s2 _ q2 (fun x hx => (HN.out x hx).1) (by rw [labels_len]; omega) (fun x hx => (HN.out x hx).2))
        clear HO L1 l2 q2 s2
        go_wp2_with fail
        refine HM.out.mono ?_
        rintro e w6 ⟨vv, h3, rfl, l3, q3, s3⟩
        have L3 := hid (L2.out.trans l3)
        have S3 := hid s3
        clear HM L2 l3 s3
        by_cases hin : 0 ≤ b ∧ b < (1 : Int) + q + 1 + 1
        · obtain ⟨hb0, hb1⟩ := hin
          obtain ⟨t, rfl⟩ : ∃ t : Nat, b = t := ⟨b.toNat, by omega⟩
          have hv := labels_in ⟨1 + q, by omega⟩ ⟨t, by omega⟩ true (by show t < 1 + q + 2; omega)
          simp only at hv
          rw [hv] at q3
          have hb2 : ¬ (1 : Int) + q + 1 + 1 ≤ t := by omega
          clear hv
          obtain ⟨q4, _⟩ : ErrIn h3 vv [(tMod, 0), (tFun, 0), (tAt, ((1 + q : Nat) : Int) + 1)] 13 ∧ (13 : Int) ≠ 0 := q3
          rw [show ((1 + q : Nat) : Int) + 1 = 1 + (q : Int) + 1 by omega] at q4
          have Q4 := hid q4
          obtain ⟨ty, x, rfl⟩ := q4.iface
          clear q4
          go_wp2_with fail
          refine (wrong_any S3.out (1 + (q : Int) + 1) 13).mono ?_
          rintro e w7 ⟨v7, h7, rfl, l7, q7, s7⟩
          obtain ⟨ty7, x7, rfl⟩ := q7.iface
          have HE := hid (err_err s7 (Q4.out.mono l7) q7 (by decide) (by simp))
          have L7 := hid (L3.out.trans l7)
          clear l7 q7 s7 S3
          go_wp2_with fail
          refine HE.out.mono ?_
          rintro e w8 ⟨rfl, s8⟩
          have S8 := hid s8
          clear s8 HE
          go_wp2_with fail
          refine (awake10 S8.out).mono ?_
          rintro e w9 ⟨h9, rfl, l9, s9⟩
          have L9 := hid (L7.out.trans l9)
          have S9 := hid s9
          clear l9 s9 S8
          go_wp2_with fail
          go_ret
          exact ⟨rfl, S9.out.archBelow L9.out⟩
        · have hv := labels_out (1 + q) b true (by omega) (by omega)
          rw [hv] at q3
          obtain ⟨q4, _⟩ : ErrIn h3 vv [(tMod, 0), (tFun, 0), (tAt, ((1 + q : Nat) : Int))] 13 ∧ (13 : Int) ≠ 0 := q3
          rw [show ((1 + q : Nat) : Int) = 1 + (q : Int) by omega] at q4
          have Q4 := hid q4
          obtain ⟨ty, x, rfl⟩ := q4.iface
          clear q4 hv
          by_cases hneg : b < 0
          · go_wp2_with fail
            refine (wrong_any S3.out (1 + (q : Int)) 13).mono ?_
            rintro e w7 ⟨v7, h7, rfl, l7, q7, s7⟩
            obtain ⟨ty7, x7, rfl⟩ := q7.iface
            have HE := hid (err_err s7 (Q4.out.mono l7) q7 (by decide) (by simp))
            have L7 := hid (L3.out.trans l7)
            clear l7 q7 s7 S3
            go_wp2_with fail
            refine HE.out.mono ?_
            rintro e w8 ⟨rfl, s8⟩
            have S8 := hid s8
            clear s8 HE
            go_wp2_with fail
            refine (awake10 S8.out).mono ?_
            rintro e w9 ⟨h9, rfl, l9, s9⟩
            have L9 := hid (L7.out.trans l9)
            have S9 := hid s9
            clear l9 s9 S8
            go_wp2_with fail
            go_ret
            exact ⟨rfl, S9.out.archBelow L9.out⟩
          · have hge : (1 : Int) + q + 1 + 1 ≤ b := by omega
            go_wp2_with fail
            refine (wrong_any S3.out (1 + (q : Int)) 13).mono ?_
            rintro e w7 ⟨v7, h7, rfl, l7, q7, s7⟩
            obtain ⟨ty7, x7, rfl⟩ := q7.iface
            have HE := hid (err_err s7 (Q4.out.mono l7) q7 (by decide) (by simp))
            have L7 := hid (L3.out.trans l7)
            clear l7 q7 s7 S3
            go_wp2_with fail
            refine HE.out.mono ?_
            rintro e w8 ⟨rfl, s8⟩
            have S8 := hid s8
            clear s8 HE
            go_wp2_with fail
            refine (awake10 S8.out).mono ?_
            rintro e w9 ⟨h9, rfl, l9, s9⟩
            have L9 := hid (L7.out.trans l9)
            have S9 := hid s9
            clear l9 s9 S8
            go_wp2_with fail
            go_ret
            exact ⟨rfl, S9.out.archBelow L9.out⟩
      | false =>
        go_wp2_with (at_builtin; first
          | (refine wpList_pushN rfl _ _ rfl elemIn rfl S.out [.int .i64 5, .int .i64 0, .int .i64 0, .int .i64 b] rfl rfl rfl (one4 _ _ _ _) (by unfold maxLen; omega) (by omega) ?_; intro a' c' w3 s4 ha' hz; have S4 := hid s4; clear s4 S)
          | (refine wpList_pushN rfl _ _ rfl elemIn rfl S4.out [.int .i64 15, .int .i64 0, .int .i64 0, .int .i64 0] rfl rfl rfl (one4 _ _ _ _) (by unfold maxLen; omega) (by omega) ?_; intro a2 c2 w4 s5 ha2 hz2; have S5 := hid s5; clear s5 S4))
        have S6 : Hid (Sat W w4 (row 36 4 a2 (1 + q + 1 + 1) c2 ((labelsC (1 + q) b false).flatMap InVals) :: [arch (heapOf W)])) := hid (by have := S5.out; rw [labelsC_eq, if_neg (by decide), ← ins_snoc, ← ins_snoc]; exact this)
        have hrl := S6.out.rowLen
        obtain ⟨h1, l1, r1, s1⟩ := store_row S6.out
        have HO := hid (one_any s1 (labelsC (1 + q) b false) (by rw [labels_len]) r1 ⟨hrl.2.1, hrl.2.2⟩)
        have L1 := hid l1
        have HN := hid (labels_ok (1 + q) b false HFB.out)
        clear l1 r1 s1 S5 S6 hrl
        go_wp2_with fail
        refine HO.out.mono ?_
        rintro e w5 ⟨fa, h2, rfl, l2, q2, s2⟩
        have L2 := hid (L1.out.trans l2)
        have HM := hid (vet_one s2 _ q2 (fun x hx => (HN.out x hx).1) (by rw [labels_len]; omega) (fun x hx => (HN.out x hx).2))
        clear HO L1 l2 q2 s2
        go_wp2_with fail
        refine HM.out.mono ?_
        rintro e w6 ⟨vv, h3, rfl, l3, q3, s3⟩
        have L3 := hid (L2.out.trans l3)
        have S3 := hid s3
        clear HM L2 l3 s3
        by_cases hin : 0 ≤ b ∧ b < (1 : Int) + q + 1 + 1
        · obtain ⟨hb0, hb1⟩ := hin
          obtain ⟨t, rfl⟩ : ∃ t : Nat, b = t := ⟨b.toNat, by omega⟩
          have hv := labels_in ⟨1 + q, by omega⟩ ⟨t, by omega⟩ false (by show t < 1 + q + 2; omega)
          simp only at hv
          rw [hv] at q3
          have hb2 : ¬ (1 : Int) + q + 1 + 1 ≤ t := by omega
          clear hv
          obtain rfl : vv = .nilIface := q3
          go_wp2_with fail
          refine (awake10 S3.out).mono ?_
          rintro e w9 ⟨h9, rfl, l9, s9⟩
          have L9 := hid (L3.out.trans l9)
          have S9 := hid s9
          clear l9 s9 S3
          go_wp2_with fail
          go_ret
          exact ⟨rfl, S9.out.archBelow L9.out⟩
        · have hv := labels_out (1 + q) b false (by omega) (by omega)
          rw [hv] at q3
          obtain ⟨q4, _⟩ : ErrIn h3 vv [(tMod, 0), (tFun, 0), (tAt, ((1 + q : Nat) : Int))] 13 ∧ (13 : Int) ≠ 0 := q3
          rw [show ((1 + q : Nat) : Int) = 1 + (q : Int) by omega] at q4
          have Q4 := hid q4
          obtain ⟨ty, x, rfl⟩ := q4.iface
          clear q4 hv
          by_cases hneg : b < 0
          · go_wp2_with fail
            refine (wrong_any S3.out (1 + (q : Int)) 13).mono ?_
            rintro e w7 ⟨v7, h7, rfl, l7, q7, s7⟩
            obtain ⟨ty7, x7, rfl⟩ := q7.iface
            have HE := hid (err_err s7 (Q4.out.mono l7) q7 (by decide) (by simp))
            have L7 := hid (L3.out.trans l7)
            clear l7 q7 s7 S3
            go_wp2_with fail
            refine HE.out.mono ?_
            rintro e w8 ⟨rfl, s8⟩
            have S8 := hid s8
            clear s8 HE
            go_wp2_with fail
            refine (awake10 S8.out).mono ?_
            rintro e w9 ⟨h9, rfl, l9, s9⟩
            have L9 := hid (L7.out.trans l9)
            have S9 := hid s9
            clear l9 s9 S8
            go_wp2_with fail
            go_ret
            exact ⟨rfl, S9.out.archBelow L9.out⟩
          · have hge : (1 : Int) + q + 1 + 1 ≤ b := by omega
            go_wp2_with fail
            refine (wrong_any S3.out (1 + (q : Int)) 13).mono ?_
            rintro e w7 ⟨v7, h7, rfl, l7, q7, s7⟩
            obtain ⟨ty7, x7, rfl⟩ := q7.iface
            have HE := hid (err_err s7 (Q4.out.mono l7) q7 (by decide) (by simp))
            have L7 := hid (L3.out.trans l7)
            clear l7 q7 s7 S3
            go_wp2_with fail
            refine HE.out.mono ?_
            rintro e w8 ⟨rfl, s8⟩
            have S8 := hid s8
            clear s8 HE
            go_wp2_with fail
            refine (awake10 S8.out).mono ?_
            rintro e w9 ⟨h9, rfl, l9, s9⟩
            have L9 := hid (L7.out.trans l9)
            have S9 := hid s9
            clear l9 s9 S8
            go_wp2_with fail
            go_ret
            exact ⟨rfl, S9.out.archBelow L9.out⟩
#print axioms labels_walk
end Go.Proofs.YtohdhckafebmhaaDoor
