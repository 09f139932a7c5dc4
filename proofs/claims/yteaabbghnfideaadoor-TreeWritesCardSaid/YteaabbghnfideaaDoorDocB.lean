/-
  The document's texts (trouperef02): bare, Name. (Written by wip/gen/gen_docb.py.)
-/
import Derived.Test.YteaabbghnfideaaDoorDoc
namespace Go.Proofs.YteaabbghnfideaaDoor
open Go.RowKit
set_option maxHeartbeats 4000000
set_option maxRecDepth 100000

section
variable {W w : World} {L : List HP} {e n c : Nat} {a : Option Addr} {xs : List Value} {P : Program} {t bytes : Nat}
/-- append of a literal of elements of one cell, made just ahead of it -/
theorem wpList_push1s {ops : Array Oper} {rest : List Oper} {o : Oper} {ac : Act} {Q : Exit → Act → World → Prop} (hgd : o.guard = none) (so xo : Operand)
    (ho : o.op = .call { callee := .builtin .append, args := #[so, xo], argTypes := #[t, t] }) (E : Elem P t e 1 bytes)
    (hs : ac.eval so = .slice a n c) (s : Sat W w (row e 1 a n c xs :: L)) (vs : List Value)
    {k m : Nat} (hx : ac.eval xo = .slice (some ⟨k, 0, none⟩) m m) (hk : k = w.heap.size) (hm : m = vs.length) (h1 : ∀ v ∈ vs, v.oneCell' = true) (h63 : n + m ≤ maxLen) (hbytes : (n + m) * bytes ≤ 140737488355328)
    (h : ∀ a' c' w', Sat W w' (row e 1 a' (n + m) c' (xs ++ vs) :: L) → w.heap.size ≤ w'.heap.size → wpList P ops Q rest (ac.put o.dst (.slice a' (n + m) c')) w') : wpList P ops Q (o :: rest) ac (w.alloc (.cells vs.toArray e)) := by
  subst hk
  subst hm
  refine wpList_append_row hgd so xo ho E hs (s.alloc' _) _ vs.length vs.length vs hx (by omega) (fun j u hj => ?_) h1 h63 hbytes fun a' c' w' s' hn hz => h a' c' w' s' (Nat.le_trans (by simp) hz)
  rw [Addr.add_lit]
  obtain ⟨g, off, hg, hc⟩ := newsRd w vs e j u hj
  simp only [Option.some.injEq, Addr.mk.injEq, and_true] at hg
  obtain ⟨rfl, rfl⟩ := hg
  exact hc
end
theorem bare_any (s : ByteArray) (w : World) (hs : s.size ≤ 140737488351232) : Calls Tryd.prog 89 #[.string s] w fun e w' => e = .returned (.bool (wordB s)) ∧ w = w' := by
  obtain ⟨r, HR⟩ : ∃ r, Hid (wordB s = r) := ⟨_, hid rfl⟩
  rw [HR.out]
  go_enter Tryd.func89, Tryd.ntmps89
  go_wp2_with fail
  go_loopw [3] (fun iv wr => ∃ k : Nat, k ≤ s.size ∧ iv = .int .i64 k ∧ Hid (wordFrom 0 (byts s) = wordFrom k ((byts s).drop k)) ∧ w = wr) (fun iv _ => s.size - (intOf iv).toNat)
  case atStart => exact ⟨0, Nat.zero_le _, rfl, hid rfl, rfl⟩
  case round =>
    obtain ⟨k, hk, rfl, HW, rfl⟩ := hrel
    by_cases hlt : k < s.size
    · skip
      have hstep := wordFrom_step hlt
      have HST := hid hstep
      have hc0 : 0 ≤ ((s[k]).toNat : Int) ∧ ((s[k]).toNat : Int) ≤ 255 := by have := (s[k]).toNat_lt; omega
      clear hstep
      rcases (show (97 ≤ ((s[k]).toNat : Int) ∧ ((s[k]).toNat : Int) ≤ 122) ∨ (k = 0 ∧ ((s[k]).toNat : Int) < 97) ∨ (k = 0 ∧ 122 < ((s[k]).toNat : Int)) ∨ (k ≠ 0 ∧ ((s[k]).toNat : Int) < 48) ∨ (k ≠ 0 ∧ 48 ≤ ((s[k]).toNat : Int) ∧ ((s[k]).toNat : Int) ≤ 57) ∨ (k ≠ 0 ∧ 57 < ((s[k]).toNat : Int) ∧ ((s[k]).toNat : Int) < 95) ∨ (k ≠ 0 ∧ ((s[k]).toNat : Int) = 95) ∨ (k ≠ 0 ∧ 95 < ((s[k]).toNat : Int) ∧ ((s[k]).toNat : Int) < 97) ∨ (k ≠ 0 ∧ 122 < ((s[k]).toNat : Int)) by omega) with ⟨h0, h1⟩ | ⟨h0, h1⟩ | ⟨h0, h1⟩ | ⟨h0, h1⟩ | ⟨h0, h1, h2⟩ | ⟨h0, h1, h2⟩ | ⟨h0, h1⟩ | ⟨h0, h1, h2⟩ | ⟨h0, h1⟩
      · skip
        have hw : wOk k ((s[k]).toNat : Int) = true := by
          unfold wOk letB digB
          simp only [decide_eq_true_eq, decide_eq_false_iff_not, Bool.or_eq_true, Bool.and_eq_true, Bool.or_eq_false_iff, Bool.and_eq_false_iff, ne_eq]
          omega
        have hgo : wordFrom 0 (byts s) = wordFrom (k + 1) ((byts s).drop (k + 1)) := by rw [HW.out, HST.out, hw]; rfl
        have HG := hid hgo
        clear hgo hw HST HW
        have p1 : decide (97 ≤ ((s[k]).toNat : Int)) = true := by simp only [decide_eq_true_eq, decide_eq_false_iff_not]; omega
        have p2 : decide (((s[k]).toNat : Int) ≤ 122) = true := by simp only [decide_eq_true_eq, decide_eq_false_iff_not]; omega
        have p3 : decide (48 ≤ ((s[k]).toNat : Int)) = true := by simp only [decide_eq_true_eq, decide_eq_false_iff_not]; omega
        have p4 : decide (((s[k]).toNat : Int) ≤ 57) = false := by simp only [decide_eq_true_eq, decide_eq_false_iff_not]; omega
        go_wp2_with fail
        go_roundw
        case rel => exact ⟨k + 1, by omega, by go_num, HG, trivial⟩
        case measure => simp [intOf]; omega
      · skip
        have hw : wOk k ((s[k]).toNat : Int) = false := by
          unfold wOk letB digB
          simp only [decide_eq_true_eq, decide_eq_false_iff_not, Bool.or_eq_true, Bool.and_eq_true, Bool.or_eq_false_iff, Bool.and_eq_false_iff, ne_eq]
          omega
        have hno : r = false := by
          rw [← HR.out]
          have : wordFrom 0 (byts s) = false := by rw [HW.out, HST.out, hw]; rfl
          simp [wordB, this]
        have HNO := hid hno
        clear hno hw HST HW
        have hkb : ((k : Int) == 0) = true := by simp; omega
        clear h0
        have p1 : decide (97 ≤ ((s[k]).toNat : Int)) = false := by simp only [decide_eq_true_eq, decide_eq_false_iff_not]; omega
        have p2 : decide (((s[k]).toNat : Int) ≤ 122) = true := by simp only [decide_eq_true_eq, decide_eq_false_iff_not]; omega
        go_wp2_with fail
        go_ret
        exact ⟨by rw [HNO.out]; rfl, rfl⟩
      · skip
        have hw : wOk k ((s[k]).toNat : Int) = false := by
          unfold wOk letB digB
          simp only [decide_eq_true_eq, decide_eq_false_iff_not, Bool.or_eq_true, Bool.and_eq_true, Bool.or_eq_false_iff, Bool.and_eq_false_iff, ne_eq]
          omega
        have hno : r = false := by
          rw [← HR.out]
          have : wordFrom 0 (byts s) = false := by rw [HW.out, HST.out, hw]; rfl
          simp [wordB, this]
        have HNO := hid hno
        clear hno hw HST HW
        have hkb : ((k : Int) == 0) = true := by simp; omega
        clear h0
        have p1 : decide (97 ≤ ((s[k]).toNat : Int)) = true := by simp only [decide_eq_true_eq, decide_eq_false_iff_not]; omega
        have p2 : decide (((s[k]).toNat : Int) ≤ 122) = false := by simp only [decide_eq_true_eq, decide_eq_false_iff_not]; omega
        have p3 : decide (48 ≤ ((s[k]).toNat : Int)) = true := by simp only [decide_eq_true_eq, decide_eq_false_iff_not]; omega
        have p4 : decide (((s[k]).toNat : Int) ≤ 57) = false := by simp only [decide_eq_true_eq, decide_eq_false_iff_not]; omega
        go_wp2_with fail
        go_ret
        exact ⟨by rw [HNO.out]; rfl, rfl⟩
      · skip
        have hw : wOk k ((s[k]).toNat : Int) = false := by
          unfold wOk letB digB
          simp only [decide_eq_true_eq, decide_eq_false_iff_not, Bool.or_eq_true, Bool.and_eq_true, Bool.or_eq_false_iff, Bool.and_eq_false_iff, ne_eq]
          omega
        have hno : r = false := by
          rw [← HR.out]
          have : wordFrom 0 (byts s) = false := by rw [HW.out, HST.out, hw]; rfl
          simp [wordB, this]
        have HNO := hid hno
        clear hno hw HST HW
        have hkb : ((k : Int) == 0) = false := by simp; omega
        have p1 : decide (97 ≤ ((s[k]).toNat : Int)) = false := by simp only [decide_eq_true_eq, decide_eq_false_iff_not]; omega
        have p2 : decide (((s[k]).toNat : Int) ≤ 122) = true := by simp only [decide_eq_true_eq, decide_eq_false_iff_not]; omega
        have p3 : decide (48 ≤ ((s[k]).toNat : Int)) = false := by simp only [decide_eq_true_eq, decide_eq_false_iff_not]; omega
        have p4 : decide (((s[k]).toNat : Int) ≤ 57) = true := by simp only [decide_eq_true_eq, decide_eq_false_iff_not]; omega
        have hcb : (((s[k]).toNat : Int) != 95) = true := by simp only [bne_iff_ne, ne_eq]; omega
        go_wp2_with fail
        go_ret
        exact ⟨by rw [HNO.out]; rfl, rfl⟩
      · skip
        have hw : wOk k ((s[k]).toNat : Int) = true := by
          unfold wOk letB digB
          simp only [decide_eq_true_eq, decide_eq_false_iff_not, Bool.or_eq_true, Bool.and_eq_true, Bool.or_eq_false_iff, Bool.and_eq_false_iff, ne_eq]
          omega
        have hgo : wordFrom 0 (byts s) = wordFrom (k + 1) ((byts s).drop (k + 1)) := by rw [HW.out, HST.out, hw]; rfl
        have HG := hid hgo
        clear hgo hw HST HW
        have hkb : ((k : Int) == 0) = false := by simp; omega
        have p1 : decide (97 ≤ ((s[k]).toNat : Int)) = false := by simp only [decide_eq_true_eq, decide_eq_false_iff_not]; omega
        have p2 : decide (((s[k]).toNat : Int) ≤ 122) = true := by simp only [decide_eq_true_eq, decide_eq_false_iff_not]; omega
        have p3 : decide (48 ≤ ((s[k]).toNat : Int)) = true := by simp only [decide_eq_true_eq, decide_eq_false_iff_not]; omega
        have p4 : decide (((s[k]).toNat : Int) ≤ 57) = true := by simp only [decide_eq_true_eq, decide_eq_false_iff_not]; omega
        have hcb : (((s[k]).toNat : Int) != 95) = true := by simp only [bne_iff_ne, ne_eq]; omega
        go_wp2_with fail
        go_roundw
        case rel => exact ⟨k + 1, by omega, by go_num, HG, trivial⟩
        case measure => simp [intOf]; omega
      · skip
        have hw : wOk k ((s[k]).toNat : Int) = false := by
          unfold wOk letB digB
          simp only [decide_eq_true_eq, decide_eq_false_iff_not, Bool.or_eq_true, Bool.and_eq_true, Bool.or_eq_false_iff, Bool.and_eq_false_iff, ne_eq]
          omega
        have hno : r = false := by
          rw [← HR.out]
          have : wordFrom 0 (byts s) = false := by rw [HW.out, HST.out, hw]; rfl
          simp [wordB, this]
        have HNO := hid hno
        clear hno hw HST HW
        have hkb : ((k : Int) == 0) = false := by simp; omega
        have p1 : decide (97 ≤ ((s[k]).toNat : Int)) = false := by simp only [decide_eq_true_eq, decide_eq_false_iff_not]; omega
        have p2 : decide (((s[k]).toNat : Int) ≤ 122) = true := by simp only [decide_eq_true_eq, decide_eq_false_iff_not]; omega
        have p3 : decide (48 ≤ ((s[k]).toNat : Int)) = true := by simp only [decide_eq_true_eq, decide_eq_false_iff_not]; omega
        have p4 : decide (((s[k]).toNat : Int) ≤ 57) = false := by simp only [decide_eq_true_eq, decide_eq_false_iff_not]; omega
        have hcb : (((s[k]).toNat : Int) != 95) = true := by simp only [bne_iff_ne, ne_eq]; omega
        go_wp2_with fail
        go_ret
        exact ⟨by rw [HNO.out]; rfl, rfl⟩
      · skip
        have hw : wOk k ((s[k]).toNat : Int) = true := by
          unfold wOk letB digB
          simp only [decide_eq_true_eq, decide_eq_false_iff_not, Bool.or_eq_true, Bool.and_eq_true, Bool.or_eq_false_iff, Bool.and_eq_false_iff, ne_eq]
          omega
        have hgo : wordFrom 0 (byts s) = wordFrom (k + 1) ((byts s).drop (k + 1)) := by rw [HW.out, HST.out, hw]; rfl
        have HG := hid hgo
        clear hgo hw HST HW
        have hkb : ((k : Int) == 0) = false := by simp; omega
        have hcb : (((s[k]).toNat : Int) != 95) = false := by rw [h1]; rfl
        have a1 : 48 ≤ ((s[k]).toNat : Int) := by omega
        have a2 : 57 < ((s[k]).toNat : Int) := by omega
        have a3 : ((s[k]).toNat : Int) < 97 := by omega
        clear h1
        go_wp2_with fail
        go_roundw
        case rel => exact ⟨k + 1, by omega, by go_num, HG, trivial⟩
        case measure => simp [intOf]; omega
      · skip
        have hw : wOk k ((s[k]).toNat : Int) = false := by
          unfold wOk letB digB
          simp only [decide_eq_true_eq, decide_eq_false_iff_not, Bool.or_eq_true, Bool.and_eq_true, Bool.or_eq_false_iff, Bool.and_eq_false_iff, ne_eq]
          omega
        have hno : r = false := by
          rw [← HR.out]
          have : wordFrom 0 (byts s) = false := by rw [HW.out, HST.out, hw]; rfl
          simp [wordB, this]
        have HNO := hid hno
        clear hno hw HST HW
        have hkb : ((k : Int) == 0) = false := by simp; omega
        have p1 : decide (97 ≤ ((s[k]).toNat : Int)) = false := by simp only [decide_eq_true_eq, decide_eq_false_iff_not]; omega
        have p2 : decide (((s[k]).toNat : Int) ≤ 122) = true := by simp only [decide_eq_true_eq, decide_eq_false_iff_not]; omega
        have p3 : decide (48 ≤ ((s[k]).toNat : Int)) = true := by simp only [decide_eq_true_eq, decide_eq_false_iff_not]; omega
        have p4 : decide (((s[k]).toNat : Int) ≤ 57) = false := by simp only [decide_eq_true_eq, decide_eq_false_iff_not]; omega
        have hcb : (((s[k]).toNat : Int) != 95) = true := by simp only [bne_iff_ne, ne_eq]; omega
        go_wp2_with fail
        go_ret
        exact ⟨by rw [HNO.out]; rfl, rfl⟩
      · skip
        have hw : wOk k ((s[k]).toNat : Int) = false := by
          unfold wOk letB digB
          simp only [decide_eq_true_eq, decide_eq_false_iff_not, Bool.or_eq_true, Bool.and_eq_true, Bool.or_eq_false_iff, Bool.and_eq_false_iff, ne_eq]
          omega
        have hno : r = false := by
          rw [← HR.out]
          have : wordFrom 0 (byts s) = false := by rw [HW.out, HST.out, hw]; rfl
          simp [wordB, this]
        have HNO := hid hno
        clear hno hw HST HW
        have hkb : ((k : Int) == 0) = false := by simp; omega
        have p1 : decide (97 ≤ ((s[k]).toNat : Int)) = true := by simp only [decide_eq_true_eq, decide_eq_false_iff_not]; omega
        have p2 : decide (((s[k]).toNat : Int) ≤ 122) = false := by simp only [decide_eq_true_eq, decide_eq_false_iff_not]; omega
        have p3 : decide (48 ≤ ((s[k]).toNat : Int)) = true := by simp only [decide_eq_true_eq, decide_eq_false_iff_not]; omega
        have p4 : decide (((s[k]).toNat : Int) ≤ 57) = false := by simp only [decide_eq_true_eq, decide_eq_false_iff_not]; omega
        have hcb : (((s[k]).toNat : Int) != 95) = true := by simp only [bne_iff_ne, ne_eq]; omega
        go_wp2_with fail
        go_ret
        exact ⟨by rw [HNO.out]; rfl, rfl⟩
    · obtain rfl : k = s.size := by omega
      have hend : wordFrom 0 (byts s) = true := by rw [HW.out, List.drop_of_length_le (by rw [byts_len]; exact Nat.le_refl _)]; rfl
      by_cases h0 : s.size = 0
      · have hr : r = false := by
          rw [← HR.out]
          have : byts s = [] := List.eq_nil_of_length_eq_zero (by rw [byts_len, h0])
          simp [wordB, this]
        have HR2 := hid hr
        have hse : s = ByteArray.empty := by
          obtain ⟨⟨l⟩⟩ := s
          cases l with
          | nil => rfl
          | cons a l => simp [ByteArray.size] at h0
        subst hse
        clear hr hend HW
        go_wp2_with fail
        go_ret
        exact ⟨by rw [HR2.out]; rfl, rfl⟩
      · have hr : r = true := by
          rw [← HR.out]
          have h1 : (byts s).isEmpty = false := by
            cases hb : byts s with
            | nil => have := byts_len s; rw [hb] at this; simp at this; omega
            | cons a l => rfl
          simp [wordB, hend, h1]
        have HR2 := hid hr
        have h2 : decide ((s.size : Int) > 0) = true := by simp; omega
        have h3 : decide (0 < s.size) = true := by simp; omega
        clear hr hend HW
        go_wp2_with fail
        go_ret
        exact ⟨by rw [HR2.out]; rfl, rfl⟩
theorem name_any {W w : World} {L : List HP} (s : ByteArray) (hs : s.size ≤ 1000000) (S0 : Sat W w L) : Calls Tryd.prog 76 #[.string s] w fun e w' => ∃ q, e = .returned (.string q) ∧ byts q = nameT s ∧ Sat W w' L := by
  have HB := hid (bare_any s w (by omega))
  cases hw : wordB s with
  | true =>
    have HN : Hid (nameT s = byts s) := hid (by unfold nameT; rw [if_pos hw])
    rw [hw] at HB
    clear hw
    go_enter Tryd.func76, Tryd.ntmps76
    go_wp2_with fail
    refine HB.out.mono ?_
    rintro e w1 ⟨rfl, rfl⟩
    go_wp2_with fail
    go_ret
    exact ⟨s, rfl, HN.out.symm, S0⟩
  | false =>
    have HN : Hid (nameT s = quo s) := hid (by unfold nameT; rw [if_neg (by rw [hw]; decide)])
    rw [hw] at HB
    have s1 := S0.allocAt (k := w.heap.size) (.cells #[.int .u8 39] 5) rfl
    have S1 : Hid (Sat W _ (row 5 1 (some ⟨w.heap.size, 0, none⟩) 1 1 (u8s ([39] ++ ((byts s).take 0).flatMap quoB)) :: L)) := hid (s1.rowMk (off := 0) (by simp [u8s]) (by omega) (by unfold maxLen; omega) (by simp) (by simp [u8s]))
    clear hw S0 s1
    go_enter Tryd.func76, Tryd.ntmps76
    go_wp2_with fail
    refine HB.out.mono ?_
    rintro e w1 ⟨rfl, rfl⟩
    go_wp2_with fail
    go_loopw [3, 4] (fun ov iv wr => ∃ (k : Nat) (a : Option Addr) (n c : Nat), k ≤ s.size ∧ iv = .int .i64 k ∧ ov = .slice a n c ∧ n ≤ 1 + 4 * k ∧ Hid (Sat W wr (row 5 1 a n c (u8s ([39] ++ ((byts s).take k).flatMap quoB)) :: L))) (fun _ iv _ => s.size - (intOf iv).toNat)
    case atStart => exact ⟨0, _, 1, 1, Nat.zero_le _, rfl, rfl, by omega, S1⟩
    case round =>
      obtain ⟨k, a, n, c, hk, rfl, rfl, hn, S⟩ := hrel
      clear S1
      by_cases hlt : k < s.size
      · have hst : (byts s).take (k + 1) = (byts s).take k ++ [((s[k]).toNat : Int)] := by rw [List.take_add_one, byts_get hlt]; rfl
        have hfl : [39] ++ ((byts s).take (k + 1)).flatMap quoB = ([39] ++ ((byts s).take k).flatMap quoB) ++ quoB ((s[k]).toNat : Int) := by rw [hst, List.flatMap_append]; simp
        have hb0 : 0 ≤ ((s[k]).toNat : Int) ∧ ((s[k]).toNat : Int) ≤ 255 := by have := (s[k]).toNat_lt; omega
        rcases (show (((s[k]).toNat : Int) = 39 ∨ ((s[k]).toNat : Int) = 92) ∨ (((s[k]).toNat : Int) ≠ 39 ∧ ((s[k]).toNat : Int) ≠ 92 ∧ ((s[k]).toNat : Int) < 32) ∨ (((s[k]).toNat : Int) ≠ 39 ∧ ((s[k]).toNat : Int) ≠ 92 ∧ 127 ≤ ((s[k]).toNat : Int)) ∨ (((s[k]).toNat : Int) ≠ 39 ∧ ((s[k]).toNat : Int) ≠ 92 ∧ 32 ≤ ((s[k]).toNat : Int) ∧ ((s[k]).toNat : Int) < 127) by omega) with hq | ⟨n1, n2, hq⟩ | ⟨n1, n2, hq⟩ | ⟨n1, n2, hq, hq2⟩
        · have HQ : Hid (quoB ((s[k]).toNat : Int) = [92, ((s[k]).toNat : Int)]) := hid (by unfold quoB oddB; rw [if_neg (by rw [decide_eq_true_eq]; omega), if_pos hq])
          have HFL := hid hfl
          clear hst hfl
          have q1 : (((s[k]).toNat : Int) == 39 || ((s[k]).toNat : Int) == 92) = true := by simpa using hq
          rcases hq with hq | hq
          · have q2 : (((s[k]).toNat : Int) == 39) = true := by simpa using hq
            clear hq q1
            go_wp2_with (at_builtin; refine wpList_push1s (m := 2) rfl _ _ rfl elem8 rfl S.out [.int .u8 92, .int .u8 ((s[k]).toNat : Int)] rfl rfl rfl (by intro v hv; simp only [List.mem_cons, List.not_mem_nil, or_false] at hv; rcases hv with rfl | rfl <;> rfl) (by unfold maxLen; omega) (by omega) ?_; intro a1 c1 w2 s2 hz1; have S2 := hid s2; clear s2 S)
            go_roundw
            case rel => exact ⟨k + 1, a1, n + 2, c1, by omega, by go_num, rfl, by omega, hid (by rw [HFL.out, HQ.out, u8s_append]; simpa [u8s] using S2.out)⟩
            case measure => simp [intOf]; omega
          · have q2 : (((s[k]).toNat : Int) == 39) = false := by rw [hq]; rfl
            have q3 : (((s[k]).toNat : Int) == 92) = true := by simpa using hq
            clear hq q1
            go_wp2_with (at_builtin; refine wpList_push1s (m := 2) rfl _ _ rfl elem8 rfl S.out [.int .u8 92, .int .u8 ((s[k]).toNat : Int)] rfl rfl rfl (by intro v hv; simp only [List.mem_cons, List.not_mem_nil, or_false] at hv; rcases hv with rfl | rfl <;> rfl) (by unfold maxLen; omega) (by omega) ?_; intro a1 c1 w2 s2 hz1; have S2 := hid s2; clear s2 S)
            go_roundw
            case rel => exact ⟨k + 1, a1, n + 2, c1, by omega, by go_num, rfl, by omega, hid (by rw [HFL.out, HQ.out, u8s_append]; simpa [u8s] using S2.out)⟩
            case measure => simp [intOf]; omega
        · have HQ : Hid (quoB ((s[k]).toNat : Int) = [92, 120, hexD (((s[k]).toNat : Int) / 16), hexD (((s[k]).toNat : Int) % 16)]) := hid (by unfold quoB oddB; rw [if_pos (by rw [decide_eq_true_eq]; omega)])
          have HFL := hid hfl
          have q2 : (((s[k]).toNat : Int) == 39) = false := by simpa using n1
          have q3 : (((s[k]).toNat : Int) == 92) = false := by simpa using n2
          have q4 : decide (((s[k]).toNat : Int) < 32) = true := by simpa using hq
          have hd1 : 0 ≤ ((s[k]).toNat : Int) / 16 ∧ ((s[k]).toNat : Int) / 16 < 16 := by omega
          have hd2 : 0 ≤ ((s[k]).toNat : Int) % 16 ∧ ((s[k]).toNat : Int) % 16 < 16 := by omega
          have g1 : IntKind.u8.wrap (((s[k]).toNat : Int) / 16) = ((s[k]).toNat : Int) / 16 := by rw [IntKind.wrap_u8]; omega
          have g2 : Int.tmod ((s[k]).toNat : Int) 16 = ((s[k]).toNat : Int) % 16 := Int.tmod_eq_emod_of_nonneg (by omega)
          have hx1 := hexG (((s[k]).toNat : Int) / 16) hd1
          have hx2 := hexG (((s[k]).toNat : Int) % 16) hd2
          clear hst hfl n1 n2
          go_upto_region 12 with fail
          go_region_law (refine step_push1s (m := 4) rfl _ _ rfl elem8 rfl S.out.drew [.int .u8 92, .int .u8 120, .int .u8 (hexD (((s[k]).toNat : Int) / 16)), .int .u8 (hexD (((s[k]).toNat : Int) % 16))] rfl rfl rfl (by intro v hv; simp only [List.mem_cons, List.not_mem_nil, or_false] at hv; rcases hv with rfl | rfl | rfl | rfl <;> rfl) (by unfold maxLen; omega) (by omega) ?_; intro a1 c1 w2 s2 hz1; have S2 := hid s2; clear s2)
          all_goals clear S
          all_goals go_wp2_with fail
          all_goals go_roundw
          all_goals first
            | exact ⟨k + 1, a1, n + 4, c1, by omega, by go_num, rfl, by omega, hid (by rw [HFL.out, HQ.out, u8s_append]; simpa [u8s] using S2.out)⟩
            | (simp [intOf]; omega)
        · have HQ : Hid (quoB ((s[k]).toNat : Int) = [92, 120, hexD (((s[k]).toNat : Int) / 16), hexD (((s[k]).toNat : Int) % 16)]) := hid (by unfold quoB oddB; rw [if_pos (by rw [decide_eq_true_eq]; omega)])
          have HFL := hid hfl
          have q2 : (((s[k]).toNat : Int) == 39) = false := by simpa using n1
          have q3 : (((s[k]).toNat : Int) == 92) = false := by simpa using n2
          have q4 : decide (((s[k]).toNat : Int) < 32) = false := by simp only [decide_eq_false_iff_not]; omega
          have q5 : decide (127 ≤ ((s[k]).toNat : Int)) = true := by simpa using hq
          have hd1 : 0 ≤ ((s[k]).toNat : Int) / 16 ∧ ((s[k]).toNat : Int) / 16 < 16 := by omega
          have hd2 : 0 ≤ ((s[k]).toNat : Int) % 16 ∧ ((s[k]).toNat : Int) % 16 < 16 := by omega
          have g1 : IntKind.u8.wrap (((s[k]).toNat : Int) / 16) = ((s[k]).toNat : Int) / 16 := by rw [IntKind.wrap_u8]; omega
          have g2 : Int.tmod ((s[k]).toNat : Int) 16 = ((s[k]).toNat : Int) % 16 := Int.tmod_eq_emod_of_nonneg (by omega)
          have hx1 := hexG (((s[k]).toNat : Int) / 16) hd1
          have hx2 := hexG (((s[k]).toNat : Int) % 16) hd2
          clear hst hfl n1 n2
          go_upto_region 12 with fail
          go_region_law (refine step_push1s (m := 4) rfl _ _ rfl elem8 rfl S.out.drew [.int .u8 92, .int .u8 120, .int .u8 (hexD (((s[k]).toNat : Int) / 16)), .int .u8 (hexD (((s[k]).toNat : Int) % 16))] rfl rfl rfl (by intro v hv; simp only [List.mem_cons, List.not_mem_nil, or_false] at hv; rcases hv with rfl | rfl | rfl | rfl <;> rfl) (by unfold maxLen; omega) (by omega) ?_; intro a1 c1 w2 s2 hz1; have S2 := hid s2; clear s2)
          all_goals clear S
          all_goals go_wp2_with fail
          all_goals go_roundw
          all_goals first
            | exact ⟨k + 1, a1, n + 4, c1, by omega, by go_num, rfl, by omega, hid (by rw [HFL.out, HQ.out, u8s_append]; simpa [u8s] using S2.out)⟩
            | (simp [intOf]; omega)
        · have HQ : Hid (quoB ((s[k]).toNat : Int) = [((s[k]).toNat : Int)]) := hid (by unfold quoB oddB; rw [if_neg (by rw [decide_eq_true_eq]; omega), if_neg (by omega)])
          have HFL := hid hfl
          have q2 : (((s[k]).toNat : Int) == 39) = false := by simpa using n1
          have q3 : (((s[k]).toNat : Int) == 92) = false := by simpa using n2
          have q4 : decide (((s[k]).toNat : Int) < 32) = false := by simp only [decide_eq_false_iff_not]; omega
          have q5 : decide (127 ≤ ((s[k]).toNat : Int)) = false := by simp only [decide_eq_false_iff_not]; omega
          clear hst hfl n1 n2
          go_wp2_with (at_builtin; refine wpList_push1s (m := 1) rfl _ _ rfl elem8 rfl S.out [.int .u8 ((s[k]).toNat : Int)] rfl rfl rfl (by intro v hv; simp only [List.mem_cons, List.not_mem_nil, or_false] at hv; rcases hv with rfl <;> rfl) (by unfold maxLen; omega) (by omega) ?_; intro a1 c1 w2 s2 hz1; have S2 := hid s2; clear s2 S)
          go_roundw
          case rel => exact ⟨k + 1, a1, n + 1, c1, by omega, by go_num, rfl, by omega, hid (by rw [HFL.out, HQ.out, u8s_append]; simpa [u8s] using S2.out)⟩
          case measure => simp [intOf]; omega
      · obtain rfl : k = s.size := by omega
        have hq : [39] ++ ((byts s).take s.size).flatMap quoB ++ [39] = quo s := by rw [List.take_of_length_le (by rw [byts_len]; exact Nat.le_refl _)]; rfl
        have HQ := hid hq
        clear hq
        go_wp2_with (at_builtin; refine wpList_push_row rfl _ _ rfl elem8 rfl S.out (.int .u8 39) rfl (by simp) rfl (by unfold maxLen; omega) (by omega) ?_; intro a1 c1 w2 s2 ha1 hz1; have S2 : Hid (Sat W w2 (row 5 1 a1 (n + 1) c1 (u8s (quo s)) :: L)) := hid (by rw [← HQ.out, u8s_append]; simpa [u8s] using s2); have hl := S2.out.rowLen.1; rw [length_u8s] at hl; have v1 := fun dst hd => conv_rd (P := Tryd.prog) (src := 23) (dst := dst) (c := c1) Tryd.underlying23 Tryd.underlying5 hd (n := n + 1) (by omega) S2.out.rowRd; clear s2 S hl)
        go_ret
        exact ⟨_, rfl, by rw [HN.out, strOf_byts _ (quo_in s)], S2.out.drop⟩
#print axioms bare_any
end Go.Proofs.YteaabbghnfideaaDoor
