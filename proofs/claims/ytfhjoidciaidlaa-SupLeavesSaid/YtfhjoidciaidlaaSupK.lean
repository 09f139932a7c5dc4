/-
  The law SupLeaves.
-/
import Derived.Test.YtfhjoidciaidlaaSupJ
import Derived.Outline
namespace Go.Proofs.Ytfhjoidciaidlaa
open Go.RowKit
set_option maxHeartbeats 1000000

def cF : Chd := ⟨tF, 0, 5⟩
def lvKids (k j : Nat) : List Kid := (List.range k).map fun i => ⟨cF, decide (i < j), false⟩
def lvSt (st : Int) (k j : Nat) (since : Int) : Su := if j = 0 then ⟨st, 0, 1, lvKids k 0, 3, [], [], -1, since, false, .exit⟩ else ⟨st, 0, 1, lvKids k j, 2, [], (List.range (j - 1)).reverse, (j - 1 : Nat), since, false, .exit⟩
def lvA (j : Nat) : List Ac := if j = 0 then [⟨4, 0⟩] else [⟨2, (j - 1 : Nat)⟩]
def lvSp (st : Int) (k : Nat) : Sp := ⟨st, 0, 1, List.replicate k cF⟩
def lv1 (st : Int) (k : Nat) : Su := ⟨st, 0, 1, lvKids k k, 1, [], [], -1, 0, false, .no⟩
theorem lvKids_len (k j : Nat) : (lvKids k j).length = k := by simp [lvKids]
theorem lvKids_get {k j i : Nat} (h : i < k) : (lvKids k j)[i]? = some ⟨cF, decide (i < j), false⟩ := by simp [lvKids, h]
theorem lv_up {k j i : Nat} (h : i < k) : upAt (lvKids k j) i = decide (i < j) := by simp [upAt, lvKids_get h]
theorem lv_ups {k j : Nat} (h : j ≤ k) : ups (lvKids k j) 0 = List.range j := by
  unfold ups upsTo
  rw [lvKids_len]
  obtain ⟨d, rfl⟩ : ∃ d, k = j + d := ⟨k - j, by omega⟩
  rw [List.range_add, List.filter_append]
  have e1 : (List.range j).filter (fun i => decide (0 ≤ i) && upAt (lvKids (j + d) j) i) = List.range j := by
    rw [List.filter_eq_self]
    intro i hi
    rw [List.mem_range] at hi
    simp [lv_up (show i < j + d by omega), hi]
  have e2 : ((List.range d).map (j + ·)).filter (fun i => decide (0 ≤ i) && upAt (lvKids (j + d) j) i) = [] := by
    rw [List.filter_eq_nil_iff]
    intro i hi
    rw [List.mem_map] at hi
    obtain ⟨x, hx, rfl⟩ := hi
    rw [List.mem_range] at hx
    simp [lv_up (show j + x < j + d by omega)]
  rw [e1, e2, List.append_nil]
theorem lv_start (k : Nat) : raise 0 k ((List.replicate k cF).map kid0) = lvKids k k := by
  refine List.ext_getElem? fun i => ?_
  unfold raise
  rw [List.getElem?_mapIdx]
  by_cases h : i < k
  · rw [lvKids_get h]
    simp [h, kid0]
  · rw [List.getElem?_eq_none (by simp; omega), List.getElem?_eq_none (by rw [lvKids_len]; omega)]
    rfl
theorem lv_fall (k j : Nat) : ((lvKids k (j + 1)).modify j Kid.fall).modify j Kid.leave = lvKids k j := by
  refine List.ext_getElem? fun i => ?_
  rw [List.getElem?_modify, List.getElem?_modify]
  by_cases h : i < k
  · rw [lvKids_get h, lvKids_get h]
    by_cases q : j = i
    · subst q; simp [Kid.fall, Kid.leave, cF]
    · have : (i < j + 1) = (i < j) := by simp; omega
      simp [q, this]
  · rw [List.getElem?_eq_none (by rw [lvKids_len]; omega), List.getElem?_eq_none (by rw [lvKids_len]; omega)]
    by_cases q : j = i <;> simp [q]
theorem lv_leave (k j : Nat) : (lvKids k (j + 1)).modify j Kid.leave = lvKids k (j + 1) := by
  refine List.ext_getElem? fun i => ?_
  rw [List.getElem?_modify]
  by_cases h : i < k
  · rw [lvKids_get h]
    by_cases q : j = i
    · subst q; simp [Kid.leave, cF]
    · simp [q]
  · rw [List.getElem?_eq_none (by rw [lvKids_len]; omega)]
    by_cases q : j = i <;> simp [q]
theorem lv_time {k j i : Nat} (h : i < k) : timeAt (lvKids k j) i = 5 := by simp [timeAt, lvKids_get h, cF]
/-- the next one's turn, when those below j are up and the list holds just these -/
theorem lv_next (st : Int) {k j : Nat} (hj : j ≤ k) (since now stop : Int) : Su.next ⟨st, 0, 1, lvKids k j, 2, [], (List.range j).reverse, stop, since, false, .exit⟩ now = if j = 0 then (⟨st, 0, 1, lvKids k 0, 3, [], [], -1, since, false, .exit⟩, [⟨4, 0⟩]) else (⟨st, 0, 1, lvKids k j, 2, [], (List.range (j - 1)).reverse, (j - 1 : Nat), now, false, .exit⟩, [⟨2, (j - 1 : Nat)⟩]) := by
  cases j with
  | zero => rfl
  | succ j =>
    have hr : (List.range (j + 1)).reverse = j :: (List.range j).reverse := by rw [List.range_succ, List.reverse_append]; rfl
    have hd : ((List.range (j + 1)).reverse).dropWhile (fun i => !upAt (lvKids k (j + 1)) i) = j :: (List.range j).reverse := by
      rw [hr, List.dropWhile_cons, lv_up (by omega)]
      simp
    unfold Su.next
    simp only [hd, lv_time (show j < k by omega), lv_leave, Nat.add_sub_cancel]
    simp
theorem lv_stop1 (st : Int) {k : Nat} (hk : 0 < k) : (lv1 st k).stopAll 3 = (lvSt st k k 3, lvA k) := by
  unfold Su.stopAll
  rw [if_neg (by simp [lv1]), if_neg (by simp [lv1]), if_neg (by simp [lv1])]
  unfold Su.to_end
  simp only [lv1, lv_ups (Nat.le_refl k)]
  rw [lv_next st (Nat.le_refl k), if_neg (by omega), lvSt, if_neg (by omega), lvA, if_neg (by omega)]
theorem lvSt_succ (st : Int) (k j : Nat) (since : Int) : lvSt st k (j + 1) since = ⟨st, 0, 1, lvKids k (j + 1), 2, [], (List.range j).reverse, j, since, false, .exit⟩ := by simp [lvSt]
theorem lv_stop2 (st : Int) {k j : Nat} (hj : j + 1 ≤ k) (since : Int) : (lvSt st k (j + 1) since).stopAll 4 = (lvSt st k (j + 1) since, []) := by
  rw [lvSt_succ]
  unfold Su.stopAll
  rw [if_neg (show ¬ (2 : Int) = 3 by decide), if_neg (show ¬ (2 : Int) = 0 by decide), if_pos (show (2 : Int) = 2 from rfl)]
  simp only [lv_ups hj]
  congr 2
  rw [List.range_succ, List.filter_append]
  have e1 : (List.range j).filter (fun (i : Nat) => ((i : Int) != (j : Int))) = List.range j := by
    rw [List.filter_eq_self]
    intro i hi
    rw [List.mem_range] at hi
    simp; omega
  rw [e1]
  simp
theorem lv_down (st : Int) {k j : Nat} (hj : j + 1 ≤ k) (since : Int) : (lvSt st k (j + 1) since).down (j : Nat) false 4 = (lvSt st k j (if j = 0 then since else 4), lvA j) := by
  have hu : upAt (lvKids k (j + 1)) j = true := by rw [lv_up (by omega)]; simp
  rw [lvSt_succ]
  unfold Su.down
  simp only [Int.toNat_natCast, hu, lvKids_len]
  rw [if_neg (by simp; omega), if_pos trivial, if_pos trivial, lv_fall, lv_next st (by omega : j ≤ k)]
  by_cases q : j = 0
  · subst q; rfl
  · rw [if_neg q, if_neg q, lvA, if_neg q, lvSt, if_neg q]
theorem lv_fit (st : Int) {k j : Nat} (hj : j ≤ k) (hk : k ≤ 10000) (since : Int) : (lvSt st k j since).fit := by
  unfold lvSt
  split
  · exact ⟨by rw [lvKids_len]; exact hk, by simp, fun i hi => by simp at hi, fun i hi => by simp at hi, by simp⟩
  · exact ⟨by rw [lvKids_len]; exact hk, by simp, fun i hi => by simp at hi, fun i hi => by simp [lvKids_len] at hi ⊢; omega, by simp; omega⟩
theorem lv_ok {st : Int} {k : Nat} (h1 : 1 ≤ st) (h2 : st ≤ 3) (h3 : 1 ≤ k) (h4 : k ≤ 32) : (lvSp st k).fault = none := by
  have hh : (lvSp st k).head = true := by
    unfold Sp.head lvSp
    simp only [List.length_replicate]
    exact decide_eq_true ⟨h1, h2, by omega, by omega, by omega, by omega, by omega, by omega⟩
  have ha : Chd.ok cF = true := by rfl
  unfold Sp.fault
  rw [if_pos hh]
  have : (lvSp st k).ch.findIdx? (fun c => !c.ok) = none := by
    rw [List.findIdx?_eq_none_iff]
    intro x hx
    obtain rfl := List.eq_of_mem_replicate hx
    rw [ha]; rfl
  rw [this]
theorem lv_len (st : Int) (k j : Nat) (since : Int) : (lvSt st k j since).kids.length = k := by unfold lvSt; split <;> exact lvKids_len _ _
theorem lv_notes (st : Int) (k j : Nat) (since : Int) : (lvSt st k j since).notes.length ≤ 17592186043904 := by unfold lvSt; split <;> simp
theorem lv_upsSt (st : Int) {k j : Nat} (hj : j ≤ k) (since : Int) : ups (lvSt st k j since).kids 0 = List.range j := by
  unfold lvSt
  split
  · rename_i q; subst q; exact lv_ups (Nat.zero_le _)
  · exact lv_ups hj
theorem elemCh : Elem Try.prog 22 39 3 32 := Elem.mk' Try.underlying22 (z := .agg #[.string ByteArray.empty, .int .i64 0, .int .i64 0]) (by kernel_rfl) rfl (by decide)

set_option maxRecDepth 100000 in
theorem leaves_walk (a0 a1 : Int) (W : World) : Calls Try.prog 8 #[.int .i64 a0, .int .i64 a1] W fun e w' => e = .returned (.bool true) ∧ Below W.heap.size W w' := by
  have S0 := hid (Sat.startArch W)
  have hp0 : 0 ≤ a0 % 12 := Int.emod_nonneg _ (by omega)
  have hp1 : a0 % 12 < 12 := Int.emod_lt_of_pos _ (by omega)
  have hp2 : 0 ≤ a1 % 3 := Int.emod_nonneg _ (by omega)
  have hp3 : a1 % 3 < 3 := Int.emod_lt_of_pos _ (by omega)
  obtain ⟨k1, hk1⟩ : ∃ k1 : Nat, a0 % 12 = k1 := ⟨(a0 % 12).toNat, by omega⟩
  obtain ⟨st1, hst⟩ : ∃ st1, a1 % 3 = st1 := ⟨_, rfl⟩
  rw [hk1] at hp0 hp1
  rw [hst] at hp2 hp3
  have HK := hid hk1
  have HST := hid hst
  clear hk1 hst
  go_enter Try.func8, Try.ntmps8
  go_wp2_with fail
  refine (place_any a0 12 W (by omega) (by omega)).mono ?_
  rintro e w1 ⟨rfl, rfl⟩
  rw [HK.out]
  go_wp2_with fail
  refine (place_any a1 3 W (by omega) (by omega)).mono ?_
  rintro e w1 ⟨rfl, rfl⟩
  rw [HST.out]
  have SB := hid ((S0.out.allocAt (k := W.heap.size) (.cells #[.int .i64 (1 + st1), .int .i64 0, .int .i64 1, .slice none 0 0] 24) rfl).swap.rowNil (e := 39) (size := 3)).rot3
  clear S0
  obtain ⟨k, hk⟩ : ∃ k : Nat, k = 1 + k1 := ⟨_, rfl⟩
  obtain ⟨st, hs⟩ : ∃ st, 1 + st1 = st := ⟨_, rfl⟩
  have hkk : (1 : Int) + (k1 : Int) = (k : Int) := by omega
  have hstb : 1 ≤ st ∧ st ≤ 3 := by omega
  have hk1 : 1 ≤ k ∧ k ≤ 12 := by omega
  have HSS := hid hs
  have HKK := hid hkk
  have hst0 : 1 ≤ 1 + st1 := by omega
  clear hs hk hkk
  go_wp2_with fail
  rw [HSS.out] at SB ⊢
  rw [HKK.out]
  clear hp0 hp1 hp2 hp3 hst0
  go_loopw [7] (fun iv wr => ∃ (i : Nat) (A : Option Addr) (ca : Nat), i ≤ k ∧ iv = .int .i64 i ∧ Hid (Sat W wr [blk W.heap.size (.cells #[.int .i64 st, .int .i64 0, .int .i64 1, .slice A i ca] 24 (0, 0)), row 39 3 A i ca (chVals (List.replicate i cF)), arch (heapOf W)])) (fun iv _ => k - (intOf iv).toNat)
  case atStart => exact ⟨0, none, 0, Nat.zero_le _, rfl, SB⟩
  case round =>
    obtain ⟨i, A, ca, hi, rfl, S⟩ := hrel
    clear SB
    by_cases hlt : i < k
    · have c3 : wr.cell? ⟨W.heap.size, 3, none⟩ = some (.slice A i ca) := S.out.cell 3
      have c3' : ∀ o, (wr.alloc o).cell? ⟨W.heap.size, 3, none⟩ = some (.slice A i ca) := fun o => (S.out.alloc' o).cell 3
      have c3'' : ∀ o o', ((wr.alloc o).alloc o').cell? ⟨W.heap.size, 3, none⟩ = some (.slice A i ca) := fun o o' => ((S.out.alloc' o).alloc' o').cell 3
      go_wp2_with fail
      go_region_law (first | (go_simp; go_at_call 17; refine (child_any 0 _).mono ?_; rintro e w1 ⟨rfl, o, rfl⟩) | (refine step_pushN rfl _ _ rfl elemCh rfl (S.out.swap.drew.alloc' _) (Chd.vals cF) rfl rfl (by simp) (oneChd _) (by unfold maxLen; omega) (by omega) ?_; intro a' c' w3 s4 ha' hz; have S4 := hid s4.swap; clear s4; have c5 : w3.cell? ⟨W.heap.size, 3, none⟩ = some (.slice A i ca) := S4.out.cell 3; have f5 := S4.out.free 3))
      all_goals have hrep : chVals (List.replicate (i + 1) cF) = chVals (List.replicate i cF) ++ Chd.vals cF := by rw [List.replicate_succ', chVals, flat_snoc]; rfl
      all_goals have s6 := S4.out.set 3 (.slice a' (i + 1) c')
      all_goals have S6 := hid s6
      all_goals have HREP := hid hrep
      all_goals clear s6 S c3 c3' c3'' S4 hrep
      all_goals go_wp2_with fail
      all_goals go_roundw
      all_goals first
        | exact ⟨i + 1, a', c', by omega, by go_num, by rw [HREP.out]; exact S6⟩
        | (simp [intOf]; omega)
    · obtain rfl : i = k := by omega
      have c0 : wr.cell? ⟨W.heap.size, 0, none⟩ = some (.int .i64 st) := S.out.cell 0
      have c1 : wr.cell? ⟨W.heap.size, 1, none⟩ = some (.int .i64 0) := S.out.cell 1
      have c2 : wr.cell? ⟨W.heap.size, 2, none⟩ = some (.int .i64 1) := S.out.cell 2
      have c3 : wr.cell? ⟨W.heap.size, 3, none⟩ = some (.slice A i ca) := S.out.cell 3
      obtain ⟨h1, le1, r1, s1⟩ := store_row S.out.drop
      have HL1 := hid le1
      have HR1 := hid r1
      have S1 := hid s1
      have hlr : (lvSp st i).ch.length = i := by simp [lvSp]
      have hnw := new_ok S1.out (lvSp st i) A ca HR1.out (by intro x hx; obtain rfl := List.eq_of_mem_replicate hx; decide) (by rw [hlr]; omega) (lv_ok hstb.1 hstb.2 hk1.1 (by omega))
      unfold specAgg at hnw
      rw [hlr] at hnw
      have HNW := hid hnw
      clear le1 r1 s1 S hlr hnw
      go_wp2_with fail
      refine HNW.out.mono ?_
      rintro e w2 ⟨p, h2, rfl, le, s2⟩
      have HL2 := hid (HL1.out.trans le)
      have S2 := hid s2
      clear le s2 S1 HL1 c0 c1 c2 c3 HNW
      go_wp2_with fail
      have hnl : (Su.new (lvSp st i)).kids.length = i := by simp [Su.new, lvSp]
      have hnb : ((Su.new (lvSp st i)).start 0 (Su.new (lvSp st i)).kids.length, startActs (Su.new (lvSp st i)).kids 0 (Su.new (lvSp st i)).kids.length) = (lv1 st i, startActs (Su.new (lvSp st i)).kids 0 i) := by
        rw [hnl]
        have h1 : (Su.new (lvSp st i)).start 0 i = lv1 st i := by
          unfold Su.start
          rw [show (Su.new (lvSp st i)).kids = (List.replicate i cF).map kid0 from rfl, lv_start]
          rfl
        rw [h1]
      refine (begin_eq S2.out rfl hnb (by rw [hnl]; omega)).mono ?_
      rintro e w3 ⟨a3', c3, rfl, s3⟩
      have S3 := hid s3.drop
      clear s3 S2 hnb hnl
      go_wp2_with fail
      have hl1 : (lv1 st i).kids.length = i := lvKids_len _ _
      refine (stop_eq S3.out 3 (lv_stop1 st hk1.1) (by rw [hl1]; omega)).mono ?_
      rintro e w4 ⟨a4, c4, rfl, s4⟩
      have S4 := hid s4
      clear s4 S3 hl1
      obtain ⟨m, rfl⟩ : ∃ m, i = m := ⟨_, rfl⟩
      have hnum : ∀ j : Nat, (lvA j).length = 1 := fun j => by unfold lvA; split <;> rfl
      rw [hnum] at S4 ⊢
      have HNUM := hid hnum
      clear hnum
      go_wp2_with fail
      go_loopw [10, 11] (fun lv iv wr => ∃ (j : Nat) (a : Option Addr) (c : Nat) (since : Int) (h' : Nat → Option Obj), j ≤ i ∧ iv = .int .i64 ((j : Int) - 1) ∧ lv = .slice a 1 c ∧ Hid (Le (heapOf W) h') ∧ Hid (Sat W wr [row 46 2 a 1 c (acVals (lvA j)), sup p h' (lvSt st i j since), arch h'])) (fun _ iv _ => (intOf iv + 1).toNat)
      case atStart => exact ⟨i, a4, c4, 3, h2, Nat.le_refl _, by go_num, rfl, HL2, S4⟩
      case round =>
        obtain ⟨j, a, c, since, h', hj, rfl, rfl, HLE, S⟩ := hrel
        clear S4 HL2
        cases j with
        | zero =>
          go_wp2_with fail
          have SA := hid (S.out.alloc' (.cells #[.int .i64 4, .int .i64 0] 46))
          clear S
          refine (sameActs_yes _ _ _ 1 1 _ _ [⟨4, 0⟩] rfl rfl (SA.out.rowRd) (newsRd wr [.int .i64 4, .int .i64 0] _) (by omega)).mono ?_
          rintro e w6 ⟨rfl, hw⟩
          have S6 := hid (SA.out.quiet hw)
          clear hw SA
          go_wp2_with fail
          refine (done_sup S6.out.swap).mono ?_
          rintro e w7 ⟨rfl, rfl⟩
          rw [show decide ((lvSt st i 0 since).state = 3) = true from rfl]
          go_wp2_with fail
          refine (up_sup S6.out.swap (by rw [lv_len]; omega)).mono ?_
          rintro e w7 ⟨a7, n7, c7, rfl, hn7, s7⟩
          rw [lv_upsSt st (Nat.zero_le _)] at hn7
          simp only [List.range_zero, List.length_nil] at hn7
          subst hn7
          have S7 := hid s7
          clear s7 S6
          go_wp2_with fail
          refine (awake_any S7.out.rot4).mono ?_
          rintro e w8 ⟨h8, rfl, le, s8⟩
          have HL8 := hid (HLE.out.trans le)
          have S8 := hid s8
          clear s8 le S7 HLE
          go_wp2_with fail
          go_ret
          exact ⟨rfl, S8.out.archBelow HL8.out⟩
        | succ j =>
          have hjj : (((j + 1 : Nat) : Int)) - 1 = (j : Int) := by omega
          rw [hjj]
          clear hjj
          go_wp2_with fail
          have SA := hid (S.out.alloc' (.cells #[.int .i64 2, .int .i64 j] 46))
          clear S
          refine (sameActs_yes _ _ _ 1 1 _ _ [⟨2, j⟩] rfl rfl (SA.out.rowRd) (newsRd wr [.int .i64 2, .int .i64 j] _) (by omega)).mono ?_
          rintro e w6 ⟨rfl, hw⟩
          have S6 := hid (SA.out.quiet hw)
          clear hw SA
          go_wp2_with fail
          refine (stop_eq S6.out.unrot3 4 (lv_stop2 st hj since) (by rw [lv_len]; omega)).mono ?_
          rintro e w7 ⟨a7, c7, rfl, s7⟩
          have S7 := hid s7.drop
          clear s7 S6
          go_wp2_with fail
          refine (up_sup S7.out (by rw [lv_len]; omega)).mono ?_
          rintro e w8 ⟨a8, n8, c8, rfl, hn8, s8⟩
          rw [lv_upsSt st hj, List.length_range] at hn8
          subst hn8
          have S8 := hid s8.drop
          clear s8 S7
          go_wp2_with fail
          refine (down_eq S8.out j false 4 (lv_down st hj since) (by rw [lv_len]; omega) (lv_notes _ _ _ _) (fun _ => lv_fit st hj (by omega) since)).mono ?_
          rintro e w9 ⟨a9, c9, h9, rfl, le, s9⟩
          rw [HNUM.out] at s9 ⊢
          have HL9 := hid (HLE.out.trans le)
          have S9 := hid (s9.rot4.drop)
          clear s9 S8 le HLE
          go_wp2_with fail
          go_roundw
          case rel => exact ⟨j, a9, c9, _, h9, by omega, by go_num, rfl, HL9, S9⟩
          case measure => simp [intOf]
end Go.Proofs.Ytfhjoidciaidlaa
