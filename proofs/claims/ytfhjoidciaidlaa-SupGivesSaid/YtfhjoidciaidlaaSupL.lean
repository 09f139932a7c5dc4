/-
  The law SupGives.
-/
import Derived.Test.YtfhjoidciaidlaaSupJ
namespace Go.Proofs.Ytfhjoidciaidlaa
open Go.RowKit
set_option maxHeartbeats 1000000

def gC : Chd := ⟨tF, 0, 5⟩
def gvCnt (i : Nat) (g t : Int) (n : Nat) : Nat := ((List.range n).filter fun (k : Nat) => decide (((i : Int) - (k : Int)) * g < t)).length
theorem gvCnt_succ (i : Nat) (g t : Int) (n : Nat) : gvCnt i g t (n + 1) = gvCnt i g t n + if ((i : Int) - (n : Int)) * g < t then 1 else 0 := by
  unfold gvCnt
  rw [List.range_succ, List.filter_append, List.length_append]
  congr 1
  by_cases q : ((i : Int) - (n : Int)) * g < t <;> simp [q]
theorem gvCnt_le (i : Nat) (g t : Int) (n : Nat) : gvCnt i g t n ≤ n := by
  unfold gvCnt
  exact Nat.le_trans (List.length_filter_le _ _) (by simp)
theorem mul_bd {a g : Int} (h0 : 0 ≤ a) (h1 : a ≤ 30) (h2 : 0 ≤ g) (h3 : g ≤ 20) : 0 ≤ a * g ∧ a * g ≤ 600 := by
  refine ⟨Int.mul_nonneg h0 h2, ?_⟩
  have := Int.mul_le_mul h1 h3 h2 (by omega : (0 : Int) ≤ 30)
  omega
def gvNotes (g : Int) (i : Nat) : List Int := (List.range i).map fun (j : Nat) => (j : Int) * g
theorem gvNotes_succ (g : Int) (i : Nat) : gvNotes g i ++ [(i : Int) * g] = gvNotes g (i + 1) := by simp [gvNotes, List.range_succ]
theorem gv_recent {i : Nat} {g t : Int} (hi : i ≤ 30) (hg0 : 0 ≤ g) (hg : g ≤ 20) (ht0 : 0 ≤ t) (ht : t ≤ 100) : recent ((i : Int) * g) t (gvNotes g (i + 1)) = gvCnt i g t (i + 1) := by
  unfold recent gvNotes gvCnt
  rw [List.filter_map, List.length_map]
  congr 1
  refine List.filter_congr fun j hj => ?_
  rw [List.mem_range] at hj
  have b1 := mul_bd (a := i) (g := g) (by omega) (by omega) hg0 hg
  have b2 := mul_bd (a := j) (g := g) (by omega) (by omega) hg0 hg
  have b3 := mul_bd (a := (i : Int) - j) (g := g) (by omega) (by omega) hg0 hg
  have b4 := Int.sub_mul (i : Int) (j : Int) g
  show inTime ((i : Int) * g) ((j : Int) * g) t = decide (((i : Int) - (j : Int)) * g < t)
  rw [inTime_le (by omega) (by omega) (by omega) (by omega) (by omega), b4]
def gvS (m t g : Int) (i : Nat) : Su := ⟨1, m, t, [⟨gC, true, false⟩], 1, gvNotes g i, [], -1, 0, false, .no⟩
def gvE (m t g : Int) (i : Nat) : Su := ⟨1, m, t, [⟨gC, false, false⟩], 3, gvNotes g i, [], -1, 0, false, .exit⟩
theorem gv_noted (m t g : Int) (i : Nat) : (gvS m t g i).noted 0 ((i : Int) * g) = ⟨1, m, t, [⟨gC, false, false⟩], 1, gvNotes g (i + 1), [], -1, 0, false, .no⟩ := by
  unfold Su.noted gvS
  simp only [gvNotes_succ]
  rfl
theorem gv_down {m t g : Int} {i : Nat} {nrm : Bool} : (gvS m t g i).down 0 nrm ((i : Int) * g) = if (recent ((i : Int) * g) t (gvNotes g (i + 1)) : Int) > m then (gvE m t g (i + 1), [⟨4, 0⟩]) else (gvS m t g (i + 1), [⟨1, 0⟩]) := by
  unfold Su.down
  rw [if_neg (by simp [gvS, upAt]), if_neg (by simp [gvS]), if_neg (by simp [gvS, restAt, gC]), if_neg (by simp [gvS, restAt, gC])]
  simp only [Int.toNat_zero, gv_noted]
  by_cases q : (recent ((i : Int) * g) t (gvNotes g (i + 1)) : Int) > m
  · rw [if_pos q, if_pos q]; rfl
  · rw [if_neg q, if_neg q, if_neg (by decide), if_neg (by decide)]; rfl
theorem gv_no {m t g : Int} {i : Nat} {nrm : Bool} (h : ¬ (gvCnt i g t (i + 1) : Int) > m) (hi : i ≤ 30) (hg0 : 0 ≤ g) (hg : g ≤ 20) (ht0 : 0 ≤ t) (ht : t ≤ 100) : (gvS m t g i).down 0 nrm ((i : Int) * g) = (gvS m t g (i + 1), [⟨1, 0⟩]) := by
  rw [gv_down, gv_recent hi hg0 hg ht0 ht, if_neg h]
theorem gv_yes {m t g : Int} {i : Nat} {nrm : Bool} (h : (gvCnt i g t (i + 1) : Int) > m) (hi : i ≤ 30) (hg0 : 0 ≤ g) (hg : g ≤ 20) (ht0 : 0 ≤ t) (ht : t ≤ 100) : (gvS m t g i).down 0 nrm ((i : Int) * g) = (gvE m t g (i + 1), [⟨4, 0⟩]) := by
  rw [gv_down, gv_recent hi hg0 hg ht0 ht, if_pos h]
theorem gv_ok {m t : Int} (h1 : 0 ≤ m) (h2 : m ≤ 8) (h3 : 1 ≤ t) (h4 : t ≤ 60) : Sp.fault ⟨1, m, t, [gC]⟩ = none := by
  have hh : Sp.head ⟨1, m, t, [gC]⟩ = true := decide_eq_true (show (1 : Int) ≤ 1 ∧ (1 : Int) ≤ 3 ∧ 0 ≤ m ∧ m ≤ 1000 ∧ 1 ≤ t ∧ t ≤ 10000 ∧ (1 : Int) ≤ 1 ∧ (1 : Int) ≤ 32 from ⟨by omega, by omega, by omega, by omega, by omega, by omega, by omega, by omega⟩)
  have ha : Chd.ok gC = true := by rfl
  unfold Sp.fault
  rw [if_pos hh]
  simp [List.findIdx?_cons, ha]
theorem gv_begin (m t g : Int) : ((Su.new ⟨1, m, t, [gC]⟩).start 0 (Su.new ⟨1, m, t, [gC]⟩).kids.length, startActs (Su.new ⟨1, m, t, [gC]⟩).kids 0 (Su.new ⟨1, m, t, [gC]⟩).kids.length) = (gvS m t g 0, [⟨1, 0⟩]) := by rfl

set_option maxRecDepth 100000 in
theorem gives_walk (a0 a1 a2 a3 : Int) (W : World) : Calls Try.prog 4 #[.int .i64 a0, .int .i64 a1, .int .i64 a2, .int .i64 a3] W fun e w' => e = .returned (.bool true) ∧ Below W.heap.size W w' := by
  have S0 := hid (Sat.startArch W)
  have hp0 : 0 ≤ a0 % 8 := Int.emod_nonneg _ (by omega)
  have hp1 : a0 % 8 < 8 := Int.emod_lt_of_pos _ (by omega)
  have hp2 : 0 ≤ a1 % 60 := Int.emod_nonneg _ (by omega)
  have hp3 : a1 % 60 < 60 := Int.emod_lt_of_pos _ (by omega)
  have hp4 : 0 ≤ a2 % 20 := Int.emod_nonneg _ (by omega)
  have hp5 : a2 % 20 < 20 := Int.emod_lt_of_pos _ (by omega)
  obtain ⟨m, hm⟩ : ∃ m, a0 % 8 = m := ⟨_, rfl⟩
  obtain ⟨t1, ht1⟩ : ∃ t1, a1 % 60 = t1 := ⟨_, rfl⟩
  obtain ⟨g, hg⟩ : ∃ g, a2 % 20 = g := ⟨_, rfl⟩
  obtain ⟨T, hT⟩ : ∃ T : Nat, a3 % 30 = T := ⟨(a3 % 30).toNat, by have : 0 ≤ a3 % 30 := Int.emod_nonneg _ (by omega); omega⟩
  have hp7 : (T : Int) < 30 := by rw [← hT]; exact Int.emod_lt_of_pos _ (by omega)
  rw [hm] at hp0 hp1
  rw [ht1] at hp2 hp3
  rw [hg] at hp4 hp5
  have HM := hid hm
  have HT1 := hid ht1
  have HG := hid hg
  have HT := hid hT
  clear hm ht1 hg hT
  go_enter Try.func4, Try.ntmps4
  go_wp2_with fail
  refine (place_any a0 8 W (by omega) (by omega)).mono ?_
  rintro e w1 ⟨rfl, rfl⟩
  rw [HM.out]
  go_wp2_with fail
  refine (place_any a1 60 W (by omega) (by omega)).mono ?_
  rintro e w1 ⟨rfl, rfl⟩
  rw [HT1.out]
  go_wp2_with fail
  refine (place_any a2 20 W (by omega) (by omega)).mono ?_
  rintro e w1 ⟨rfl, rfl⟩
  rw [HG.out]
  go_wp2_with fail
  refine (child_any 0 W).mono ?_
  rintro e w1 ⟨rfl, o, rfl⟩
  obtain ⟨h1, le1, r1, s1⟩ := store_lit (((S0.out.alloc' o).allocAt (k := W.heap.size + 1) (.cells #[.string tF, .int .i64 0, .int .i64 5] 39) (by simp)))
  have HL1 := hid le1
  have HR1 := hid r1
  have S1 := hid s1
  clear le1 r1 s1 S0
  go_wp2_with fail
  obtain ⟨t, ht⟩ : ∃ t, 1 + t1 = t := ⟨_, rfl⟩
  have htb : 1 ≤ t ∧ t ≤ 60 := by omega
  rw [ht]
  have HTT := hid ht
  clear ht hp2 hp3
  refine (new_ok S1.out ⟨1, m, t, [gC]⟩ _ 1 HR1.out (by intro x hx; simp only [List.mem_cons, List.not_mem_nil, or_false] at hx; subst hx; decide) (by show 1 ≤ 32; omega) (gv_ok (by omega) (by omega) htb.1 htb.2)).mono ?_
  rintro e w2 ⟨p, h2, rfl, le, s2⟩
  have HL2 := hid (HL1.out.trans le)
  have S2 := hid s2
  clear le s2 S1 HL1
  go_wp2_with fail
  refine (begin_eq S2.out rfl (gv_begin m t g) (by show 1 ≤ 10000; omega)).mono ?_
  rintro e w3 ⟨a3', c3, rfl, s3⟩
  have S3 := hid s3.drop
  clear s3 S2
  go_wp2_with fail
  go_loopw [14] (fun iv wr => ∃ (i : Nat) (h' : Nat → Option Obj), i ≤ T ∧ iv = .int .i64 i ∧ Hid (Le (heapOf W) h') ∧ Hid (Sat W wr [sup p h' (gvS m t g i), arch h'])) (fun iv _ => T - (intOf iv).toNat)
  case atStart => exact ⟨0, h2, Nat.zero_le _, rfl, HL2, S3⟩
  case round =>
    obtain ⟨i, h', hi, rfl, HLE, S⟩ := hrel
    clear S3 HL2
    have him := mul_bd (a := (i : Int)) (g := g) (by omega) (by omega) hp4 (by omega)
    go_wp2_with fail
    refine (place_any a3 30 wr (by omega) (by omega)).mono ?_
    rintro e w4 ⟨rfl, rfl⟩
    rw [HT.out]
    by_cases hlt : i < T
    · obtain ⟨gc, HGC⟩ : ∃ gc, Hid (gvCnt i g t (i + 1) = gc) := ⟨_, rfl⟩
      have hgl := gvCnt_le i g t (i + 1)
      rw [HGC.out] at hgl
      have hd : ∀ nrm : Bool, (gvS m t g i).down 0 nrm ((i : Int) * g) = (if m < (gc : Int) then gvE m t g (i + 1) else gvS m t g (i + 1), if m < (gc : Int) then [⟨4, 0⟩] else [⟨1, 0⟩]) := by
        intro nrm
        by_cases q : (gc : Int) > m
        · rw [gv_yes (by rw [HGC.out]; exact q) (by omega) hp4 (by omega) (by omega) (by omega), if_pos q, if_pos q]
        · rw [gv_no (by rw [HGC.out]; exact q) (by omega) hp4 (by omega) (by omega) (by omega), if_neg q, if_neg q]
      obtain ⟨s', ac, HQ⟩ : ∃ (s' : Su) (ac : List Ac), Hid ((if m < (gc : Int) then gvE m t g (i + 1) else gvS m t g (i + 1)) = s' ∧ (if m < (gc : Int) then [⟨4, 0⟩] else [⟨1, 0⟩]) = ac) := ⟨_, _, rfl, rfl⟩
      have HD : Hid (∀ nrm : Bool, (gvS m t g i).down 0 nrm ((i : Int) * g) = (s', ac)) := by rw [HQ.out.1, HQ.out.2] at hd; exact hd
      clear hd
      go_wp2_with fail
      refine (down_eq S.out 0 _ _ (HD.out _) (by show 1 ≤ 10000; omega) (by show (gvNotes g i).length ≤ _; simp [gvNotes]; omega) (by intro q; exact absurd (show (1 : Int) = 2 from q) (by decide))).mono ?_
      rintro e w5 ⟨a5, c5, h5, rfl, le, s5⟩
      have HL5 := hid (HLE.out.trans le)
      have S5 := hid s5
      clear s5 S le HLE
      go_wp2_with fail
      go_loopw [16, 17] (fun rv kv wr => ∃ k : Nat, k ≤ i + 1 ∧ kv = .int .i64 k ∧ rv = .int .i64 (gvCnt i g t k : Nat) ∧ w5 = wr) (fun _ kv _ => i + 1 - (intOf kv).toNat)
      case atStart => exact ⟨0, Nat.zero_le _, rfl, rfl, rfl⟩
      case round =>
        obtain ⟨k, hk, rfl, rfl, rfl⟩ := hrel
        by_cases hkl : k ≤ i
        · have b3 := mul_bd (a := (i : Int) - k) (g := g) (by omega) (by omega) hp4 (by omega)
          have hcl := gvCnt_le i g t k
          have hcs := gvCnt_succ i g t k
          obtain ⟨r, HR⟩ : ∃ r, Hid (gvCnt i g t k = r) := ⟨_, rfl⟩
          rw [HR.out] at hcl hcs ⊢
          have HCS := hid hcs
          clear hcs
          by_cases hq : ((i : Int) - k) * g < t
          · go_wp2_with fail
            go_roundw
            case rel => exact ⟨k + 1, by omega, by go_num, by rw [HCS.out, if_pos hq]; go_num, trivial⟩
            case measure => simp [intOf]; omega
          · go_wp2_with fail
            go_roundw
            case rel => exact ⟨k + 1, by omega, by go_num, by rw [HCS.out, if_neg hq]; go_num, trivial⟩
            case measure => simp [intOf]; omega
        · obtain rfl : k = i + 1 := by omega
          rw [HGC.out]
          by_cases hq : m < (gc : Int)
          · have h1 := HQ.out.1
            have h2 := HQ.out.2
            rw [if_pos hq] at h1 h2
            subst h1 h2
            go_wp2_with fail
            have SA := hid (S5.out.alloc' (.cells #[.int .i64 4, .int .i64 0] 46))
            clear S5
            refine (sameActs_yes _ _ _ 1 1 _ _ [⟨4, 0⟩] rfl rfl (SA.out.rowRd) (newsRd w5 [.int .i64 4, .int .i64 0] _) (by omega)).mono ?_
            rintro e w6 ⟨rfl, hw⟩
            have S6 := hid (SA.out.quiet hw)
            clear hw SA
            go_wp2_with fail
            refine (done_sup S6.out.swap).mono ?_
            rintro e w7 ⟨rfl, rfl⟩
            rw [show decide ((gvE m t g (i + 1)).state = 3) = true from rfl]
            go_wp2_with fail
            refine (awake_any S6.out.rot3).mono ?_
            rintro e w7 ⟨h7, rfl, le, s7⟩
            have HL7 := hid (HL5.out.trans le)
            have S7 := hid s7
            clear s7 le S6 HL5
            go_wp2_with fail
            go_ret
            exact ⟨rfl, S7.out.archBelow HL7.out⟩
          · have h1 := HQ.out.1
            have h2 := HQ.out.2
            rw [if_neg hq] at h1 h2
            subst h1 h2
            go_wp2_with fail
            have SA := hid (S5.out.alloc' (.cells #[.int .i64 1, .int .i64 0] 46))
            clear S5
            refine (sameActs_yes _ _ _ 1 1 _ _ [⟨1, 0⟩] rfl rfl (SA.out.rowRd) (newsRd w5 [.int .i64 1, .int .i64 0] _) (by omega)).mono ?_
            rintro e w6 ⟨rfl, hw⟩
            have S6 := hid (SA.out.quiet hw)
            clear hw SA
            go_wp2_with fail
            refine (done_sup S6.out.swap).mono ?_
            rintro e w7 ⟨rfl, rfl⟩
            rw [show decide ((gvS m t g (i + 1)).state = 3) = false from rfl]
            go_wp2_with fail
            go_roundw
            case rel => exact ⟨i + 1, h5, by omega, by go_num, HL5, hid S6.out.drop⟩
            case measure => simp [intOf]; omega
    · obtain rfl : i = T := by omega
      go_wp2_with fail
      refine (awake_any S.out.swap).mono ?_
      rintro e w7 ⟨h7, rfl, le, s7⟩
      have HL7 := hid (HLE.out.trans le)
      have S7 := hid s7
      clear s7 le S HLE
      go_wp2_with fail
      go_ret
      exact ⟨rfl, S7.out.archBelow HL7.out⟩
end Go.Proofs.Ytfhjoidciaidlaa
