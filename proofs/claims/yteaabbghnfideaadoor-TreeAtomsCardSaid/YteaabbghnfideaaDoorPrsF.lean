/-
  tree.Parse: begin: the walk. (Written by wip/gen/gen_prsf.py.)
-/
import Derived.Test.YteaabbghnfideaaDoorPrsE
namespace Go.Proofs.YteaabbghnfideaaDoor
open Go.RowKit
set_option maxHeartbeats 4000000
set_option maxRecDepth 100000

theorem tk_ne {b : Int} {r : List Int} (h : headI r ≠ b) : tk b r = none := by
  cases r with
  | nil => rfl
  | cons c r => rw [tk]; exact if_neg h
theorem tk_eq {b : Int} {s : ByteArray} {i : Nat} (hi : i < s.size) (h : headI (rem s i) = b) : tk b (rem s i) = some (rem s (i + 1)) := by
  rw [rem_lt hi] at h ⊢
  rw [tk]; exact if_pos h
theorem head_lt {s : ByteArray} {i : Nat} (h : headI (rem s i) ≠ 0) : i < s.size := by
  rcases Nat.lt_or_ge i s.size with q | q
  · exact q
  · rw [rem_end q] at h; exact absurd rfl h
section
variable {W w : World} {L : List HP} {h : Nat → Option Obj} {p i : Nat} {s : ByteArray}
def tv0 (k n : Int) (nm : ByteArray) (ba : Option Addr) (bn bc : Nat) : Array Value := #[.int .i64 k, .int .i64 n, .string nm, .slice none 0 0, .slice none 0 0, .slice ba bn bc]
theorem Sat.sel2 {A B C : HP} {M : List HP} (s : Sat W w (A :: B :: C :: M)) : Sat W w (A :: C :: M) := s.swap.drop
theorem tb_put {tb : Nat} {k n : Int} {nm : ByteArray} {ba : Option Addr} {bn bc : Nat} {M : List HP} (S : Sat W w (TB tb k n nm ba bn bc :: M)) (k' : Int) :
    Sat W ((((((w.setCell ⟨tb, 0, none⟩ (.int .i64 k')).setCell ⟨tb, 1, none⟩ (.int .i64 0)).setCell ⟨tb, 2, none⟩ (.string ⟨#[]⟩)).setCell ⟨tb, 3, none⟩ (.slice none 0 0)).setCell ⟨tb, 4, none⟩ (.slice none 0 0)).setCell ⟨tb, 5, none⟩ (.slice none 0 0)) (TB tb k' 0 ⟨#[]⟩ none 0 0 :: M) :=
  (((((S.set 0 (.int .i64 k')).set 1 (.int .i64 0)).set 2 (.string ⟨#[]⟩)).set 3 (.slice none 0 0)).set 4 (.slice none 0 0)).set 5 (.slice none 0 0)
theorem ext_take {s : ByteArray} {i k : Nat} : s.extract i (i + k) = strOfNums ((rem s i).take k) := by
  have e : byts (s.extract i (i + k)) = (rem s i).take k := by
    unfold byts rem byts
    rw [List.take_drop, ← List.map_take, ← List.map_drop]
    congr 1
    simp [ByteArray.data_extract, List.drop_take]
  rw [← e, strOf_of]
theorem wcnt_end {k : Nat} {r : List Int} (h : ¬ WordC (headI r)) : wcnt k r = 0 := by
  cases k with
  | zero => rw [wcnt]
  | succ k => cases r with
    | nil => rw [wcnt]; simp
    | cons c r => rw [wcnt]; exact if_neg h
theorem wcnt_more {k : Nat} {r : List Int} {c : Int} (h : WordC c) : wcnt (k + 1) (c :: r) = wcnt k r + 1 := by rw [wcnt]; exact if_pos h
def BegP (W : World) (L : List HP) (h : Nat → Option Obj) (p : Nat) (s : ByteArray) (q : Option (T × Bool × List Int)) (e : Ending) (w' : World) : Prop := match q with
  | some (t, whole, r) => ∃ j ba bc h', e = .returned (.tuple #[.agg (tv0 t.k t.n t.nm ba t.bs.length bc), .bool whole]) ∧ r = rem s j ∧ j ≤ s.size ∧ Le h h' ∧ RdIn h' ba (u8s t.bs) ∧ t.bs.length ≤ bc ∧ bc ≤ maxLen ∧ Sat W w' (PB p s j false :: arch h' :: L)
  | none => ∃ j k n nm ba bn bc, e = .returned (.tuple #[.agg (tv0 k n nm ba bn bc), .bool true]) ∧ j ≤ s.size ∧ Sat W w' (PB p s j true :: arch h :: L)
/-- the same six cells stored again -/
theorem tb_same {tb : Nat} {k n : Int} {nm : ByteArray} {ba : Option Addr} {bn bc : Nat} {M : List HP} (S : Sat W w (TB tb k n nm ba bn bc :: M)) :
    Sat W ((((((w.setCell ⟨tb, 0, none⟩ (.int .i64 k)).setCell ⟨tb, 1, none⟩ (.int .i64 n)).setCell ⟨tb, 2, none⟩ (.string nm)).setCell ⟨tb, 3, none⟩ (.slice none 0 0)).setCell ⟨tb, 4, none⟩ (.slice none 0 0)).setCell ⟨tb, 5, none⟩ (.slice ba bn bc)) (TB tb k n nm ba bn bc :: M) :=
  (((((S.set 0 (.int .i64 k)).set 1 (.int .i64 n)).set 2 (.string nm)).set 3 (.slice none 0 0)).set 4 (.slice none 0 0)).set 5 (.slice ba bn bc)
theorem begin_any (S : Sat W w (PB p s i false :: arch h :: L)) (tail : Bool) (hi : i ≤ s.size) (hs : s.size ≤ 4294967296) :
    Calls Tryd.prog 66 #[.pointer (some ⟨p, 0, none⟩), .bool tail] w (BegP W L h p s (beginF tail (rem s i))) := by
  have hs2 : s.size ≤ 140737488351232 := by omega
  obtain ⟨q, HQ⟩ : ∃ q, Hid (beginF tail (rem s i) = q) := ⟨_, hid rfl⟩
  rw [HQ.out]
  obtain ⟨tb, HTB⟩ : ∃ tb, Hid (w.heap.size = tb) := ⟨_, hid rfl⟩
  have S1 : Hid (Sat W (w.alloc (.cells #[.int .i64 0, .int .i64 0, .string ⟨#[]⟩, .slice none 0 0, .slice none 0 0, .slice none 0 0] 25)) (PB p s i false :: TB tb 0 0 ⟨#[]⟩ none 0 0 :: arch h :: L)) := hid ((S.allocAt (k := tb) _ HTB.out.symm).swap)
  obtain ⟨c, HC⟩ : ∃ c, Hid (headI (rem s i) = c) := ⟨_, hid rfl⟩
  have hpk := peek_any S1.out hi
  rw [HC.out] at hpk
  have HP := hid hpk
  have hcb := head_bd s i
  rw [HC.out] at hcb
  obtain ⟨hcb0, hcb1⟩ := hcb
  have NE : Hid (p ≠ tb) := hid S1.out.ne
  clear S hpk
  have tkn : ∀ b, c ≠ b → tk b (rem s i) = none := fun b hb => tk_ne (by rw [HC.out]; exact hb)
  have tky : ∀ b, b ≠ 0 → c = b → tk b (rem s i) = some (rem s (i + 1)) := fun b h0 hb => tk_eq (head_lt (by rw [HC.out, hb]; exact h0)) (by rw [HC.out]; exact hb)
  have TKN := hid tkn
  have TKY := hid tky
  clear tkn tky
  by_cases k123 : c = 123
  · subst k123
    have hlt : i < s.size := head_lt (by rw [HC.out]; decide)
    cases ht : tk 125 (rem s (i + 1)) with
    | none =>
      have HT0 := hid ht
      have hq : q = some (mkT 5 0 ByteArray.empty [], false, rem s (i + 1)) := by
        rw [← HQ.out]; have hc := HC.out; rw [rem_lt hlt] at hc ⊢
        rw [show ((s[i]).toNat : Int) = 123 from hc, beginF, if_pos rfl, ht]
      subst hq
      clear ht HQ
      go_enter Tryd.func66, Tryd.ntmps66
      go_wp2_with fail
      rw [HTB.out]
      refine HP.out.mono ?_
      rintro e w1 ⟨rfl, s1⟩
      clear HP
      have HT2 := hid (take_yes s1 123 hs2 (TKY.out 123 (by decide) rfl))
      clear s1
      go_wp2_with fail
      refine HT2.out.mono ?_
      rintro e w2 ⟨rfl, s2⟩
      clear HT2
      have c0 : World.cell? _ ⟨tb, 0, none⟩ = some (.int .i64 0) := s2.swap.cell 0
      have f0 := s2.swap.free 0
      have s3 := (s2.swap.set 0 (.int .i64 5)).swap
      clear s2
      have HTK : Hid (∀ wx, Sat W wx (PB p s (i + 1) false :: TB tb 5 0 ⟨#[]⟩ none 0 0 :: arch h :: L) → Calls Tryd.prog 78 #[.pointer (some ⟨p, 0, none⟩), .int .u8 125] wx fun e w' => e = .returned (.bool false) ∧ Sat W w' (PB p s (i + 1) false :: TB tb 5 0 ⟨#[]⟩ none 0 0 :: arch h :: L)) := hid fun wx SX => take_no SX 125 (by omega) HT0.out
      have lt0 := (s3.swap).lt
      have SS := hid (s3)
      go_wp2_with fail
      have c0 : World.cell? _ ⟨tb, 0, none⟩ = some (.int .i64 5) := SS.out.swap.cell 0
      have c1 : World.cell? _ ⟨tb, 1, none⟩ = some (.int .i64 0) := SS.out.swap.cell 1
      have c2 : World.cell? _ ⟨tb, 2, none⟩ = some (.string ⟨#[]⟩) := SS.out.swap.cell 2
      have c3 : World.cell? _ ⟨tb, 3, none⟩ = some (.slice none 0 0) := SS.out.swap.cell 3
      have c4 : World.cell? _ ⟨tb, 4, none⟩ = some (.slice none 0 0) := SS.out.swap.cell 4
      have c5 : World.cell? _ ⟨tb, 5, none⟩ = some (.slice none 0 0) := SS.out.swap.cell 5
      go_region_law (first
        | (go_simp
           go_at_call 78
           with_reducible refine (HTK.out _ SS.out.drew).mono ?_
           rintro e w5 ⟨rfl, s5⟩
           have d0 : w5.cell? ⟨tb, 0, none⟩ = some (.int .i64 5) := s5.swap.cell 0
           have d1 : w5.cell? ⟨tb, 1, none⟩ = some (.int .i64 0) := s5.swap.cell 1
           have d2 : w5.cell? ⟨tb, 2, none⟩ = some (.string ⟨#[]⟩) := s5.swap.cell 2
           have d3 : w5.cell? ⟨tb, 3, none⟩ = some (.slice none 0 0) := s5.swap.cell 3
           have d4 : w5.cell? ⟨tb, 4, none⟩ = some (.slice none 0 0) := s5.swap.cell 4
           have d5 : w5.cell? ⟨tb, 5, none⟩ = some (.slice none 0 0) := s5.swap.cell 5
           have f0 := s5.swap.free 0
           have f1 := s5.swap.free 1
           have f2 := s5.swap.free 2
           have f3 := s5.swap.free 3
           have f4 := s5.swap.free 4
           have f5 := s5.swap.free 5
           have S5 := hid s5.swap
           clear s5))
      all_goals have S6 := hid (tb_same S5.out)
      all_goals go_wp2_with fail
      all_goals refine bodyPost_ret (v := .tuple #[.agg (tv0 5 0 ⟨#[]⟩ none 0 0), .bool false]) (by simp [results, Tryd.results66, go_sem, tv0, d0, d1, d2, d3, d4, d5]) rfl ⟨i + 1, none, 0, h, rfl, rfl, by omega, Le.refl h, RdIn.nil _ _, Nat.le_refl _, by unfold maxLen; omega, S6.out.swap.sel2⟩
    | some r2 =>
      have HT0 := hid ht
      obtain ⟨hlt2, _, hr2⟩ := tk_some ht
      subst hr2
      have hq : q = some (mkT 5 0 ByteArray.empty [], true, rem s (i + 1 + 1)) := by
        rw [← HQ.out]; have hc := HC.out; rw [rem_lt hlt] at hc ⊢
        rw [show ((s[i]).toNat : Int) = 123 from hc, beginF, if_pos rfl, ht]
      subst hq
      clear ht HQ
      go_enter Tryd.func66, Tryd.ntmps66
      go_wp2_with fail
      rw [HTB.out]
      refine HP.out.mono ?_
      rintro e w1 ⟨rfl, s1⟩
      clear HP
      have HT2 := hid (take_yes s1 123 hs2 (TKY.out 123 (by decide) rfl))
      clear s1
      go_wp2_with fail
      refine HT2.out.mono ?_
      rintro e w2 ⟨rfl, s2⟩
      clear HT2
      have c0 : World.cell? _ ⟨tb, 0, none⟩ = some (.int .i64 0) := s2.swap.cell 0
      have f0 := s2.swap.free 0
      have s3 := (s2.swap.set 0 (.int .i64 5)).swap
      clear s2
      have HTK : Hid (∀ wx, Sat W wx (PB p s (i + 1) false :: TB tb 5 0 ⟨#[]⟩ none 0 0 :: arch h :: L) → Calls Tryd.prog 78 #[.pointer (some ⟨p, 0, none⟩), .int .u8 125] wx fun e w' => e = .returned (.bool true) ∧ Sat W w' (PB p s (i + 1 + 1) false :: TB tb 5 0 ⟨#[]⟩ none 0 0 :: arch h :: L)) := hid fun wx SX => take_yes SX 125 hs2 HT0.out
      have lt0 := (s3.swap).lt
      have SS := hid (s3)
      go_wp2_with fail
      have c0 : World.cell? _ ⟨tb, 0, none⟩ = some (.int .i64 5) := SS.out.swap.cell 0
      have c1 : World.cell? _ ⟨tb, 1, none⟩ = some (.int .i64 0) := SS.out.swap.cell 1
      have c2 : World.cell? _ ⟨tb, 2, none⟩ = some (.string ⟨#[]⟩) := SS.out.swap.cell 2
      have c3 : World.cell? _ ⟨tb, 3, none⟩ = some (.slice none 0 0) := SS.out.swap.cell 3
      have c4 : World.cell? _ ⟨tb, 4, none⟩ = some (.slice none 0 0) := SS.out.swap.cell 4
      have c5 : World.cell? _ ⟨tb, 5, none⟩ = some (.slice none 0 0) := SS.out.swap.cell 5
      go_region_law (first
        | (go_simp
           go_at_call 78
           with_reducible refine (HTK.out _ SS.out.drew).mono ?_
           rintro e w5 ⟨rfl, s5⟩
           have d0 : w5.cell? ⟨tb, 0, none⟩ = some (.int .i64 5) := s5.swap.cell 0
           have d1 : w5.cell? ⟨tb, 1, none⟩ = some (.int .i64 0) := s5.swap.cell 1
           have d2 : w5.cell? ⟨tb, 2, none⟩ = some (.string ⟨#[]⟩) := s5.swap.cell 2
           have d3 : w5.cell? ⟨tb, 3, none⟩ = some (.slice none 0 0) := s5.swap.cell 3
           have d4 : w5.cell? ⟨tb, 4, none⟩ = some (.slice none 0 0) := s5.swap.cell 4
           have d5 : w5.cell? ⟨tb, 5, none⟩ = some (.slice none 0 0) := s5.swap.cell 5
           have f0 := s5.swap.free 0
           have f1 := s5.swap.free 1
           have f2 := s5.swap.free 2
           have f3 := s5.swap.free 3
           have f4 := s5.swap.free 4
           have f5 := s5.swap.free 5
           have S5 := hid s5.swap
           clear s5))
      all_goals have S6 := hid (tb_same S5.out)
      all_goals go_wp2_with fail
      all_goals refine bodyPost_ret (v := .tuple #[.agg (tv0 5 0 ⟨#[]⟩ none 0 0), .bool true]) (by simp [results, Tryd.results66, go_sem, tv0, d0, d1, d2, d3, d4, d5]) rfl ⟨i + 1 + 1, none, 0, h, rfl, rfl, by omega, Le.refl h, RdIn.nil _ _, Nat.le_refl _, by unfold maxLen; omega, S6.out.swap.sel2⟩
  by_cases k91 : c = 91
  · subst k91
    have hlt : i < s.size := head_lt (by rw [HC.out]; decide)
    cases tail with
    | true =>
      have hq : q = none := by
        rw [← HQ.out]; have hc := HC.out; rw [rem_lt hlt] at hc ⊢
        rw [show ((s[i]).toNat : Int) = 91 from hc]
        rfl
      subst hq
      go_enter Tryd.func66, Tryd.ntmps66
      go_wp2_with fail
      rw [HTB.out]
      refine HP.out.mono ?_
      rintro e w1 ⟨rfl, s1⟩
      clear HP
      have HT2 := hid (take_no s1 123 hi (TKN.out 123 (by decide)))
      clear s1
      go_wp2_with fail
      refine HT2.out.mono ?_
      rintro e w2 ⟨rfl, s2⟩
      clear HT2
      have HT3 := hid (take_no s2 60 hi (TKN.out 60 (by decide)))
      clear s2
      go_wp2_with fail
      refine HT3.out.mono ?_
      rintro e w3 ⟨rfl, s3⟩
      clear HT3
      have HT4 := hid (take_no s3 35 hi (TKN.out 35 (by decide)))
      clear s3
      go_wp2_with fail
      refine HT4.out.mono ?_
      rintro e w4 ⟨rfl, s4⟩
      clear HT4
      have HT5 := hid (take_no s4 39 hi (TKN.out 39 (by decide)))
      clear s4
      go_wp2_with fail
      refine HT5.out.mono ?_
      rintro e w5 ⟨rfl, s5⟩
      clear HT5
      have HLT := hid (letter_any 91 w5)
      have HDG := hid (digit_any 91 w5)
      rw [show letB 91 = false by decide] at HLT
      rw [show digB 91 = false by decide] at HDG
      go_wp2_with fail
      refine HLT.out.mono ?_
      rintro e w6 ⟨rfl, rfl⟩
      go_wp2_with fail
      refine HDG.out.mono ?_
      rintro e w6 ⟨rfl, rfl⟩
      have b2 : w5.cell? ⟨p, 2, none⟩ = some (.bool false) := s5.cell 2
      have bf := s5.free 2
      have s6 := (s5.set 2 (.bool true)).swap
      have ltb := s5.swap.lt
      have c0 : World.cell? _ ⟨tb, 0, none⟩ = some (.int .i64 0) := (s5.swap).cell 0
      have c1 : World.cell? _ ⟨tb, 1, none⟩ = some (.int .i64 0) := (s5.swap).cell 1
      have c2 : World.cell? _ ⟨tb, 2, none⟩ = some (.string ⟨#[]⟩) := (s5.swap).cell 2
      have c3 : World.cell? _ ⟨tb, 3, none⟩ = some (.slice none 0 0) := (s5.swap).cell 3
      have c4 : World.cell? _ ⟨tb, 4, none⟩ = some (.slice none 0 0) := (s5.swap).cell 4
      have c5 : World.cell? _ ⟨tb, 5, none⟩ = some (.slice none 0 0) := (s5.swap).cell 5
      have f0 := (s5.swap).free 0
      have f1 := (s5.swap).free 1
      have f2 := (s5.swap).free 2
      have f3 := (s5.swap).free 3
      have f4 := (s5.swap).free 4
      have f5 := (s5.swap).free 5
      clear s5 HLT HDG
      have hne : p ≠ tb := NE.out
      have S6 := hid (tb_same (s6))
      go_wp2_with fail
      exact bodyPost_ret (v := .tuple #[.agg (tv0 0 0 ⟨#[]⟩ none 0 0), .bool true]) (by simp [results, Tryd.results66, go_sem, tv0, c0, c1, c2, c3, c4, c5]) rfl ⟨i, 0, 0, ⟨#[]⟩, none, 0, 0, rfl, hi, S6.out.swap.sel2⟩
    | false =>
      cases ht : tk 93 (rem s (i + 1)) with
      | none =>
        have HT0 := hid ht
        have hq : q = some (mkT 7 0 ByteArray.empty [], false, rem s (i + 1)) := by
          rw [← HQ.out]; have hc := HC.out; rw [rem_lt hlt] at hc ⊢
          rw [show ((s[i]).toNat : Int) = 91 from hc, beginF, if_neg (by decide), if_pos ⟨rfl, rfl⟩, ht]
        subst hq
        clear ht HQ
        go_enter Tryd.func66, Tryd.ntmps66
        go_wp2_with fail
        rw [HTB.out]
        refine HP.out.mono ?_
        rintro e w1 ⟨rfl, s1⟩
        clear HP
        have HT2 := hid (take_no s1 123 hi (TKN.out 123 (by decide)))
        clear s1
        go_wp2_with fail
        refine HT2.out.mono ?_
        rintro e w2 ⟨rfl, s2⟩
        clear HT2
        have HT3 := hid (take_yes s2 91 hs2 (TKY.out 91 (by decide) rfl))
        clear s2
        go_wp2_with fail
        refine HT3.out.mono ?_
        rintro e w3 ⟨rfl, s3⟩
        clear HT3
        have HT4 := hid (take_no s3 93 (by omega) HT0.out)
        clear s3
        go_wp2_with fail
        refine HT4.out.mono ?_
        rintro e w4 ⟨rfl, s4⟩
        clear HT4
        have c0 : World.cell? _ ⟨tb, 0, none⟩ = some (.int .i64 0) := (s4.swap).cell 0
        have c1 : World.cell? _ ⟨tb, 1, none⟩ = some (.int .i64 0) := (s4.swap).cell 1
        have c2 : World.cell? _ ⟨tb, 2, none⟩ = some (.string ⟨#[]⟩) := (s4.swap).cell 2
        have c3 : World.cell? _ ⟨tb, 3, none⟩ = some (.slice none 0 0) := (s4.swap).cell 3
        have c4 : World.cell? _ ⟨tb, 4, none⟩ = some (.slice none 0 0) := (s4.swap).cell 4
        have c5 : World.cell? _ ⟨tb, 5, none⟩ = some (.slice none 0 0) := (s4.swap).cell 5
        have f0 := (s4.swap).free 0
        have f1 := (s4.swap).free 1
        have f2 := (s4.swap).free 2
        have f3 := (s4.swap).free 3
        have f4 := (s4.swap).free 4
        have f5 := (s4.swap).free 5
        have S6 := hid (tb_same (s4.swap.set 0 (.int .i64 7)))
        go_wp2_with fail
        exact bodyPost_ret (v := .tuple #[.agg (tv0 7 0 ⟨#[]⟩ none 0 0), .bool false]) (by simp [results, Tryd.results66, go_sem, tv0, c0, c1, c2, c3, c4, c5]) rfl ⟨i + 1, none, 0, h, rfl, rfl, by omega, Le.refl h, RdIn.nil _ _, Nat.le_refl _, by unfold maxLen; omega, S6.out.swap.sel2⟩
      | some r2 =>
        have HT0 := hid ht
        obtain ⟨hlt2, _, hr2⟩ := tk_some ht
        subst hr2
        have hq : q = some (mkT 6 0 ByteArray.empty [], true, rem s (i + 1 + 1)) := by
          rw [← HQ.out]; have hc := HC.out; rw [rem_lt hlt] at hc ⊢
          rw [show ((s[i]).toNat : Int) = 91 from hc, beginF, if_neg (by decide), if_pos ⟨rfl, rfl⟩, ht]
        subst hq
        clear ht HQ
        go_enter Tryd.func66, Tryd.ntmps66
        go_wp2_with fail
        rw [HTB.out]
        refine HP.out.mono ?_
        rintro e w1 ⟨rfl, s1⟩
        clear HP
        have HT2 := hid (take_no s1 123 hi (TKN.out 123 (by decide)))
        clear s1
        go_wp2_with fail
        refine HT2.out.mono ?_
        rintro e w2 ⟨rfl, s2⟩
        clear HT2
        have HT3 := hid (take_yes s2 91 hs2 (TKY.out 91 (by decide) rfl))
        clear s2
        go_wp2_with fail
        refine HT3.out.mono ?_
        rintro e w3 ⟨rfl, s3⟩
        clear HT3
        have HT4 := hid (take_yes s3 93 hs2 HT0.out)
        clear s3
        go_wp2_with fail
        refine HT4.out.mono ?_
        rintro e w4 ⟨rfl, s4⟩
        clear HT4
        have c0 : World.cell? _ ⟨tb, 0, none⟩ = some (.int .i64 0) := (s4.swap).cell 0
        have c1 : World.cell? _ ⟨tb, 1, none⟩ = some (.int .i64 0) := (s4.swap).cell 1
        have c2 : World.cell? _ ⟨tb, 2, none⟩ = some (.string ⟨#[]⟩) := (s4.swap).cell 2
        have c3 : World.cell? _ ⟨tb, 3, none⟩ = some (.slice none 0 0) := (s4.swap).cell 3
        have c4 : World.cell? _ ⟨tb, 4, none⟩ = some (.slice none 0 0) := (s4.swap).cell 4
        have c5 : World.cell? _ ⟨tb, 5, none⟩ = some (.slice none 0 0) := (s4.swap).cell 5
        have f0 := (s4.swap).free 0
        have f1 := (s4.swap).free 1
        have f2 := (s4.swap).free 2
        have f3 := (s4.swap).free 3
        have f4 := (s4.swap).free 4
        have f5 := (s4.swap).free 5
        have S6 := hid (tb_put (s4.swap) 6)
        go_wp2_with fail
        exact bodyPost_ret (v := .tuple #[.agg (tv0 6 0 ⟨#[]⟩ none 0 0), .bool true]) (by simp [results, Tryd.results66, go_sem, tv0, c0, c1, c2, c3, c4, c5]) rfl ⟨i + 1 + 1, none, 0, h, rfl, rfl, by omega, Le.refl h, RdIn.nil _ _, Nat.le_refl _, by unfold maxLen; omega, S6.out.swap.sel2⟩
  by_cases k60 : c = 60
  · subst k60
    have hlt : i < s.size := head_lt (by rw [HC.out]; decide)
    obtain ⟨d, hd⟩ : ∃ d, binF (rem s (i + 1)) = d := ⟨_, rfl⟩
    have hq : q = d.map (fun x => (mkT 8 0 ByteArray.empty x.1, true, x.2)) := by
      rw [← HQ.out]; have hc := HC.out; rw [rem_lt hlt] at hc ⊢
      rw [show ((s[i]).toNat : Int) = 60 from hc, beginF, if_neg (by decide), if_neg (by rintro ⟨x, _⟩; revert x; decide), if_pos rfl, hd]
      cases d <;> rfl
    have HQ2 := hid hq
    have HD := hid hd
    clear hq hd HQ
    go_enter Tryd.func66, Tryd.ntmps66
    go_wp2_with fail
    rw [HTB.out]
    refine HP.out.mono ?_
    rintro e w1 ⟨rfl, s1⟩
    clear HP
    have HT2 := hid (take_no s1 123 hi (TKN.out 123 (by decide)))
    clear s1
    go_wp2_with fail
    refine HT2.out.mono ?_
    rintro e w2 ⟨rfl, s2⟩
    clear HT2
    have HT3 := hid (take_yes s2 60 hs2 (TKY.out 60 (by decide) rfl))
    clear s2
    go_wp2_with fail
    refine HT3.out.mono ?_
    rintro e w3 ⟨rfl, s3⟩
    clear HT3
    have c0 : World.cell? _ ⟨tb, 0, none⟩ = some (.int .i64 0) := s3.swap.cell 0
    have f0 := s3.swap.free 0
    have HB := hid (binary_any (s3.swap.set 0 (.int .i64 8)).swap (by omega) hs)
    rw [HD.out] at HB
    clear s3
    go_wp2_with fail
    refine HB.out.mono ?_
    rintro e w4 hb
    clear HB
    cases d with
    | none =>
      have hq : q = none := HQ2.out
      subst hq
      obtain ⟨j, ba, bn, bc, rfl, hj, s5⟩ := hb
      have c0 : World.cell? _ ⟨tb, 0, none⟩ = some (.int .i64 8) := (s5.swap).cell 0
      have c1 : World.cell? _ ⟨tb, 1, none⟩ = some (.int .i64 0) := (s5.swap).cell 1
      have c2 : World.cell? _ ⟨tb, 2, none⟩ = some (.string ⟨#[]⟩) := (s5.swap).cell 2
      have c3 : World.cell? _ ⟨tb, 3, none⟩ = some (.slice none 0 0) := (s5.swap).cell 3
      have c4 : World.cell? _ ⟨tb, 4, none⟩ = some (.slice none 0 0) := (s5.swap).cell 4
      have c5 : World.cell? _ ⟨tb, 5, none⟩ = some (.slice ba bn bc) := (s5.swap).cell 5
      have f0 := (s5.swap).free 0
      have f1 := (s5.swap).free 1
      have f2 := (s5.swap).free 2
      have f3 := (s5.swap).free 3
      have f4 := (s5.swap).free 4
      have f5 := (s5.swap).free 5
      have S6 := hid (tb_same (s5.swap))
      go_wp2_with fail
      exact bodyPost_ret (v := .tuple #[.agg (tv0 8 0 ⟨#[]⟩ ba bn bc), .bool true]) (by simp [results, Tryd.results66, go_sem, tv0, c0, c1, c2, c3, c4, c5]) rfl ⟨j, 8, 0, ⟨#[]⟩, ba, bn, bc, rfl, hj, S6.out.swap.sel2⟩
    | some br =>
      obtain ⟨bs, r2⟩ := br
      have hq : q = some (mkT 8 0 ByteArray.empty bs, true, r2) := HQ2.out
      subst hq
      obtain ⟨j, ba, bn, bc, rfl, rfl, hj, s5⟩ := hb
      have hrl := s5.rot3.rowLen
      have hbn : bn = bs.length := by have := hrl.1; rw [length_u8s] at this; omega
      subst hbn
      obtain ⟨h1, l1, r1, s7⟩ := store_row (s5.rot3.rot4.swap)
      clear s5
      have s8 := s7.rot3
      have c0 : World.cell? _ ⟨tb, 0, none⟩ = some (.int .i64 8) := (s8).cell 0
      have c1 : World.cell? _ ⟨tb, 1, none⟩ = some (.int .i64 0) := (s8).cell 1
      have c2 : World.cell? _ ⟨tb, 2, none⟩ = some (.string ⟨#[]⟩) := (s8).cell 2
      have c3 : World.cell? _ ⟨tb, 3, none⟩ = some (.slice none 0 0) := (s8).cell 3
      have c4 : World.cell? _ ⟨tb, 4, none⟩ = some (.slice none 0 0) := (s8).cell 4
      have c5 : World.cell? _ ⟨tb, 5, none⟩ = some (.slice ba bs.length bc) := (s8).cell 5
      have f0 := (s8).free 0
      have f1 := (s8).free 1
      have f2 := (s8).free 2
      have f3 := (s8).free 3
      have f4 := (s8).free 4
      have f5 := (s8).free 5
      have S6 := hid (tb_same (s8))
      go_wp2_with fail
      exact bodyPost_ret (v := .tuple #[.agg (tv0 8 0 ⟨#[]⟩ ba bs.length bc), .bool true]) (by simp [results, Tryd.results66, go_sem, tv0, c0, c1, c2, c3, c4, c5]) rfl ⟨j, ba, bc, h1, rfl, rfl, hj, l1, r1, hrl.2.1, hrl.2.2, S6.out.drop.swap⟩
  by_cases k35 : c = 35
  · subst k35
    have hlt : i < s.size := head_lt (by rw [HC.out]; decide)
    obtain ⟨d, hd⟩ : ∃ d, refF (rem s (i + 1)) = d := ⟨_, rfl⟩
    have hq : q = d.map (fun x => (x.1, true, x.2)) := by
      rw [← HQ.out]; have hc := HC.out; rw [rem_lt hlt] at hc ⊢
      rw [show ((s[i]).toNat : Int) = 35 from hc, beginF, if_neg (by decide), if_neg (by rintro ⟨x, _⟩; revert x; decide), if_neg (by decide), if_pos rfl, hd]
      cases d <;> rfl
    have HQ2 := hid hq
    have HD := hid hd
    clear hq hd HQ
    go_enter Tryd.func66, Tryd.ntmps66
    go_wp2_with fail
    rw [HTB.out]
    refine HP.out.mono ?_
    rintro e w1 ⟨rfl, s1⟩
    clear HP
    have HT2 := hid (take_no s1 123 hi (TKN.out 123 (by decide)))
    clear s1
    go_wp2_with fail
    refine HT2.out.mono ?_
    rintro e w2 ⟨rfl, s2⟩
    clear HT2
    have HT3 := hid (take_no s2 60 hi (TKN.out 60 (by decide)))
    clear s2
    go_wp2_with fail
    refine HT3.out.mono ?_
    rintro e w3 ⟨rfl, s3⟩
    clear HT3
    have HT4 := hid (take_yes s3 35 hs2 (TKY.out 35 (by decide) rfl))
    clear s3
    go_wp2_with fail
    refine HT4.out.mono ?_
    rintro e w4 ⟨rfl, s4⟩
    clear HT4
    have HB := hid (number_any s4 (by omega) hs2)
    rw [HD.out] at HB
    clear s4
    go_wp2_with fail
    refine HB.out.mono ?_
    rintro e w5 hb
    clear HB
    cases d with
    | none =>
      have hq : q = none := HQ2.out
      subst hq
      obtain ⟨j, k, m, rfl, hj, s5⟩ := hb
      have c0 : World.cell? _ ⟨tb, 0, none⟩ = some (.int .i64 k) := (s5.swap).cell 0
      have c1 : World.cell? _ ⟨tb, 1, none⟩ = some (.int .i64 m) := (s5.swap).cell 1
      have c2 : World.cell? _ ⟨tb, 2, none⟩ = some (.string ⟨#[]⟩) := (s5.swap).cell 2
      have c3 : World.cell? _ ⟨tb, 3, none⟩ = some (.slice none 0 0) := (s5.swap).cell 3
      have c4 : World.cell? _ ⟨tb, 4, none⟩ = some (.slice none 0 0) := (s5.swap).cell 4
      have c5 : World.cell? _ ⟨tb, 5, none⟩ = some (.slice none 0 0) := (s5.swap).cell 5
      have f0 := (s5.swap).free 0
      have f1 := (s5.swap).free 1
      have f2 := (s5.swap).free 2
      have f3 := (s5.swap).free 3
      have f4 := (s5.swap).free 4
      have f5 := (s5.swap).free 5
      have S6 := hid (tb_same (s5.swap))
      go_wp2_with fail
      exact bodyPost_ret (v := .tuple #[.agg (tv0 k m ⟨#[]⟩ none 0 0), .bool true]) (by simp [results, Tryd.results66, go_sem, tv0, c0, c1, c2, c3, c4, c5]) rfl ⟨j, k, m, ⟨#[]⟩, none, 0, 0, rfl, hj, S6.out.swap.sel2⟩
    | some br =>
      obtain ⟨t, r2⟩ := br
      obtain ⟨k, m, _, _, _, ht, _⟩ := refF_back HD.out
      subst ht
      have hq : q = some (mkT k m ByteArray.empty [], true, r2) := HQ2.out
      subst hq
      obtain ⟨j, rfl, rfl, hj, s5⟩ := hb
      have c0 : World.cell? _ ⟨tb, 0, none⟩ = some (.int .i64 k) := (s5.swap).cell 0
      have c1 : World.cell? _ ⟨tb, 1, none⟩ = some (.int .i64 m) := (s5.swap).cell 1
      have c2 : World.cell? _ ⟨tb, 2, none⟩ = some (.string ⟨#[]⟩) := (s5.swap).cell 2
      have c3 : World.cell? _ ⟨tb, 3, none⟩ = some (.slice none 0 0) := (s5.swap).cell 3
      have c4 : World.cell? _ ⟨tb, 4, none⟩ = some (.slice none 0 0) := (s5.swap).cell 4
      have c5 : World.cell? _ ⟨tb, 5, none⟩ = some (.slice none 0 0) := (s5.swap).cell 5
      have f0 := (s5.swap).free 0
      have f1 := (s5.swap).free 1
      have f2 := (s5.swap).free 2
      have f3 := (s5.swap).free 3
      have f4 := (s5.swap).free 4
      have f5 := (s5.swap).free 5
      have S6 := hid (tb_same (s5.swap))
      go_wp2_with fail
      exact bodyPost_ret (v := .tuple #[.agg (tv0 k m ⟨#[]⟩ none 0 0), .bool true]) (by simp [results, Tryd.results66, go_sem, tv0, c0, c1, c2, c3, c4, c5]) rfl ⟨j, none, 0, h, rfl, rfl, hj, Le.refl h, RdIn.nil _ _, Nat.le_refl _, by unfold maxLen; omega, S6.out.swap.sel2⟩
  by_cases k39 : c = 39
  · subst k39
    have hlt : i < s.size := head_lt (by rw [HC.out]; decide)
    obtain ⟨d, hd⟩ : ∃ d, nameF [] (rem s (i + 1)) = d := ⟨_, rfl⟩
    have hq : q = d.map (fun x => (mkT 2 0 (strOfNums x.1) [], true, x.2)) := by
      rw [← HQ.out]; have hc := HC.out; rw [rem_lt hlt] at hc ⊢
      rw [show ((s[i]).toNat : Int) = 39 from hc, beginF, if_neg (by decide), if_neg (by rintro ⟨x, _⟩; revert x; decide), if_neg (by decide), if_neg (by decide), if_pos rfl, hd]
      cases d <;> rfl
    have HQ2 := hid hq
    have HD := hid hd
    clear hq hd HQ
    go_enter Tryd.func66, Tryd.ntmps66
    go_wp2_with fail
    rw [HTB.out]
    refine HP.out.mono ?_
    rintro e w1 ⟨rfl, s1⟩
    clear HP
    have HT2 := hid (take_no s1 123 hi (TKN.out 123 (by decide)))
    clear s1
    go_wp2_with fail
    refine HT2.out.mono ?_
    rintro e w2 ⟨rfl, s2⟩
    clear HT2
    have HT3 := hid (take_no s2 60 hi (TKN.out 60 (by decide)))
    clear s2
    go_wp2_with fail
    refine HT3.out.mono ?_
    rintro e w3 ⟨rfl, s3⟩
    clear HT3
    have HT4 := hid (take_no s3 35 hi (TKN.out 35 (by decide)))
    clear s3
    go_wp2_with fail
    refine HT4.out.mono ?_
    rintro e w4 ⟨rfl, s4⟩
    clear HT4
    have HT5 := hid (take_yes s4 39 hs2 (TKY.out 39 (by decide) rfl))
    clear s4
    go_wp2_with fail
    refine HT5.out.mono ?_
    rintro e w5 ⟨rfl, s5⟩
    clear HT5
    have c0 : World.cell? _ ⟨tb, 0, none⟩ = some (.int .i64 0) := s5.swap.cell 0
    have f0 := s5.swap.free 0
    have HB := hid (name_any (s5.swap.set 0 (.int .i64 2)).swap (by omega) hs)
    rw [HD.out] at HB
    clear s5
    go_wp2_with fail
    refine HB.out.mono ?_
    rintro e w6 hb
    clear HB
    cases d with
    | none =>
      have hq : q = none := HQ2.out
      subst hq
      obtain ⟨j, rfl, hj, s5⟩ := hb
      have c0 : World.cell? _ ⟨tb, 0, none⟩ = some (.int .i64 2) := (s5.swap).cell 0
      have c1 : World.cell? _ ⟨tb, 1, none⟩ = some (.int .i64 0) := (s5.swap).cell 1
      have c2 : World.cell? _ ⟨tb, 2, none⟩ = some (.string ⟨#[]⟩) := (s5.swap).cell 2
      have c3 : World.cell? _ ⟨tb, 3, none⟩ = some (.slice none 0 0) := (s5.swap).cell 3
      have c4 : World.cell? _ ⟨tb, 4, none⟩ = some (.slice none 0 0) := (s5.swap).cell 4
      have c5 : World.cell? _ ⟨tb, 5, none⟩ = some (.slice none 0 0) := (s5.swap).cell 5
      have f0 := (s5.swap).free 0
      have f1 := (s5.swap).free 1
      have f2 := (s5.swap).free 2
      have f3 := (s5.swap).free 3
      have f4 := (s5.swap).free 4
      have f5 := (s5.swap).free 5
      have S6 := hid (tb_same (s5.swap.set 2 (.string ⟨#[]⟩)))
      go_wp2_with fail
      exact bodyPost_ret (v := .tuple #[.agg (tv0 2 0 ⟨#[]⟩ none 0 0), .bool true]) (by simp [results, Tryd.results66, go_sem, tv0, c0, c1, c2, c3, c4, c5]) rfl ⟨j, 2, 0, ⟨#[]⟩, none, 0, 0, rfl, hj, S6.out.swap.sel2⟩
    | some br =>
      obtain ⟨l, r2⟩ := br
      have hq : q = some (mkT 2 0 (strOfNums l) [], true, r2) := HQ2.out
      subst hq
      obtain ⟨j, rfl, rfl, hj, s5⟩ := hb
      have c0 : World.cell? _ ⟨tb, 0, none⟩ = some (.int .i64 2) := (s5.swap).cell 0
      have c1 : World.cell? _ ⟨tb, 1, none⟩ = some (.int .i64 0) := (s5.swap).cell 1
      have c2 : World.cell? _ ⟨tb, 2, none⟩ = some (.string ⟨#[]⟩) := (s5.swap).cell 2
      have c3 : World.cell? _ ⟨tb, 3, none⟩ = some (.slice none 0 0) := (s5.swap).cell 3
      have c4 : World.cell? _ ⟨tb, 4, none⟩ = some (.slice none 0 0) := (s5.swap).cell 4
      have c5 : World.cell? _ ⟨tb, 5, none⟩ = some (.slice none 0 0) := (s5.swap).cell 5
      have f0 := (s5.swap).free 0
      have f1 := (s5.swap).free 1
      have f2 := (s5.swap).free 2
      have f3 := (s5.swap).free 3
      have f4 := (s5.swap).free 4
      have f5 := (s5.swap).free 5
      have S6 := hid (tb_same (s5.swap.set 2 (.string (strOfNums l))))
      go_wp2_with fail
      exact bodyPost_ret (v := .tuple #[.agg (tv0 2 0 (strOfNums l) none 0 0), .bool true]) (by simp [results, Tryd.results66, go_sem, tv0, c0, c1, c2, c3, c4, c5]) rfl ⟨j, none, 0, h, rfl, rfl, hj, Le.refl h, RdIn.nil _ _, Nat.le_refl _, by unfold maxLen; omega, S6.out.swap.sel2⟩
  by_cases klet : letB c = true
  · have hlb := of_decide_eq_true klet
    have hlt : i < s.size := head_lt (by rw [HC.out]; omega)
    obtain ⟨N, HN⟩ : ∃ N, Hid (wcnt 255 (rem s i) = N) := ⟨_, hid rfl⟩
    have hq : q = some (mkT 2 0 (strOfNums ((rem s i).take N)) [], true, (rem s i).drop N) := by
      have hn := HN.out
      rw [← HQ.out]; have hc := HC.out; rw [rem_lt hlt] at hc hn ⊢
      rw [show ((s[i]).toNat : Int) = c from hc] at hn ⊢
      rw [beginF, if_neg k123, if_neg (fun x => k91 x.1), if_neg k60, if_neg k35, if_neg k39, if_pos klet, hn]
    have HQ2 := hid hq
    have HLB := hid klet
    have hb91 : (c == 91) = false := by simpa using k91
    clear hq HQ klet
    go_enter Tryd.func66, Tryd.ntmps66
    go_wp2_with fail
    rw [HTB.out]
    refine HP.out.mono ?_
    rintro e w1 ⟨rfl, s1⟩
    clear HP
    have HT2 := hid (take_no s1 123 hi (TKN.out 123 k123))
    clear s1
    go_wp2_with fail
    refine HT2.out.mono ?_
    rintro e w2 ⟨rfl, s2⟩
    clear HT2
    have HT3 := hid (take_no s2 60 hi (TKN.out 60 k60))
    clear s2
    go_wp2_with fail
    refine HT3.out.mono ?_
    rintro e w3 ⟨rfl, s3⟩
    clear HT3
    have HT4 := hid (take_no s3 35 hi (TKN.out 35 k35))
    clear s3
    go_wp2_with fail
    refine HT4.out.mono ?_
    rintro e w4 ⟨rfl, s4⟩
    clear HT4
    have HT5 := hid (take_no s4 39 hi (TKN.out 39 k39))
    clear s4
    go_wp2_with fail
    refine HT5.out.mono ?_
    rintro e w5 ⟨rfl, s5⟩
    clear HT5
    have HLT := hid (letter_any c w5)
    rw [HLB.out] at HLT
    go_wp2_with fail
    refine HLT.out.mono ?_
    rintro e w6 ⟨rfl, rfl⟩
    have c0 : World.cell? _ ⟨tb, 0, none⟩ = some (.int .i64 0) := s5.swap.cell 0
    have f0 := s5.swap.free 0
    have b1 : w5.cell? ⟨p, 1, none⟩ = some (.int .i64 i) := s5.cell 1
    have hne : p ≠ tb := NE.out
    have S6 := hid (s5.swap.set 0 (.int .i64 2)).swap
    clear s5 HLT
    go_wp2_with fail
    clear c0 f0 b1
    go_loopw [] (fun wr => ∃ j : Nat, i ≤ j ∧ j ≤ s.size ∧ j - i ≤ 255 ∧ Hid (N = (j - i) + wcnt (255 - (j - i)) (rem s j)) ∧ Hid (Sat W wr (PB p s j false :: TB tb 2 0 ⟨#[]⟩ none 0 0 :: arch h :: L))) (fun wr => match wr.cell? ⟨p, 1, none⟩ with | some v => s.size - (intOf v).toNat | none => 0)
    case atStart => exact ⟨i, Nat.le_refl _, hi, by omega, hid (by rw [← HN.out]; simp), S6⟩
    case round =>
      obtain ⟨j, hij, hj, hk255, HW, S⟩ := hrel
      clear S6
      have a0 : wr.cell? ⟨p, 0, none⟩ = some (.string s) := S.out.cell 0
      have a1 : wr.cell? ⟨p, 1, none⟩ = some (.int .i64 j) := S.out.cell 1
      have g1 := S.out.free 1
      have hsub : IntKind.i64.wrap ((j : Int) - i) = (j : Int) - i := IntWalk.i64_in _ (by omega)
      have hij2 : (i : Int) ≤ j := by omega
      by_cases hmax : j - i = 255
      · have t1 : decide ((j : Int) - i < 255) = false := decide_eq_false (by omega)
        have NJ : Hid (N = j - i) := hid (by rw [HW.out, show 255 - (j - i) = 0 by omega, wcnt, Nat.add_zero])
        clear hmax
        obtain rfl : q = some (mkT 2 0 (strOfNums ((rem s i).take (j - i))) [], true, rem s j) := by
          rw [HQ2.out, NJ.out]
          have e : (rem s i).drop (j - i) = rem s j := by unfold rem; rw [List.drop_drop]; congr 1; omega
          rw [e]
        have e2 := ext_take (s := s) (i := i) (k := j - i)
        rw [show i + (j - i) = j by omega] at e2
        have E2 := hid e2
        clear e2 HW
        have c2 : wr.cell? ⟨tb, 2, none⟩ = some (.string ⟨#[]⟩) := S.out.swap.cell 2
        have f2 := S.out.swap.free 2
        go_wp2_with fail
        go_quiet (fail)
        have q0 : wr.cell? ⟨tb, 0, none⟩ = some (.int .i64 2) := S.out.swap.cell 0
        have q1 : wr.cell? ⟨tb, 1, none⟩ = some (.int .i64 0) := S.out.swap.cell 1
        have q3 : wr.cell? ⟨tb, 3, none⟩ = some (.slice none 0 0) := S.out.swap.cell 3
        have q4 : wr.cell? ⟨tb, 4, none⟩ = some (.slice none 0 0) := S.out.swap.cell 4
        have q5 : wr.cell? ⟨tb, 5, none⟩ = some (.slice none 0 0) := S.out.swap.cell 5
        have r0 := S.out.swap.free 0
        have r1 := S.out.swap.free 1
        have r3 := S.out.swap.free 3
        have r4 := S.out.swap.free 4
        have r5 := S.out.swap.free 5
        go_wp2_with fail
        go_region_law (fail)
        all_goals go_wp2_with fail
        all_goals refine bodyPost_ret (v := .tuple #[.agg (tv0 2 0 (s.extract i j) none 0 0), .bool true]) (by simp [results, Tryd.results66, go_sem, tv0, q0, q1, c2, q3, q4, q5]) rfl ?_
        all_goals exact ⟨j, none, 0, h, by rw [E2.out]; rfl, rfl, hj, Le.refl h, RdIn.nil _ _, Nat.le_refl _, by unfold maxLen; omega, (tb_same ((S.out.drewN _).swap.set 2 (.string (s.extract i j)))).swap.sel2⟩
      have t1 : decide ((j : Int) - i < 255) = true := decide_eq_true (by omega)
      by_cases hend : j = s.size
      · have t2 : decide ((j : Int) < (s.size : Int)) = false := decide_eq_false (by omega)
        have t3 : decide (j < s.size) = false := decide_eq_false (by omega)
        have NJ : Hid (N = j - i) := hid (by rw [HW.out, rem_end (by omega), wcnt_end (by show ¬ WordC 0; decide)]; simp)
        clear hend
        obtain rfl : q = some (mkT 2 0 (strOfNums ((rem s i).take (j - i))) [], true, rem s j) := by
          rw [HQ2.out, NJ.out]
          have e : (rem s i).drop (j - i) = rem s j := by unfold rem; rw [List.drop_drop]; congr 1; omega
          rw [e]
        have e2 := ext_take (s := s) (i := i) (k := j - i)
        rw [show i + (j - i) = j by omega] at e2
        have E2 := hid e2
        clear e2 HW
        have c2 : wr.cell? ⟨tb, 2, none⟩ = some (.string ⟨#[]⟩) := S.out.swap.cell 2
        have f2 := S.out.swap.free 2
        go_wp2_with fail
        go_quiet (fail)
        have q0 : wr.cell? ⟨tb, 0, none⟩ = some (.int .i64 2) := S.out.swap.cell 0
        have q1 : wr.cell? ⟨tb, 1, none⟩ = some (.int .i64 0) := S.out.swap.cell 1
        have q3 : wr.cell? ⟨tb, 3, none⟩ = some (.slice none 0 0) := S.out.swap.cell 3
        have q4 : wr.cell? ⟨tb, 4, none⟩ = some (.slice none 0 0) := S.out.swap.cell 4
        have q5 : wr.cell? ⟨tb, 5, none⟩ = some (.slice none 0 0) := S.out.swap.cell 5
        have r0 := S.out.swap.free 0
        have r1 := S.out.swap.free 1
        have r3 := S.out.swap.free 3
        have r4 := S.out.swap.free 4
        have r5 := S.out.swap.free 5
        go_wp2_with fail
        go_region_law (fail)
        all_goals go_wp2_with fail
        all_goals refine bodyPost_ret (v := .tuple #[.agg (tv0 2 0 (s.extract i j) none 0 0), .bool true]) (by simp [results, Tryd.results66, go_sem, tv0, q0, q1, c2, q3, q4, q5]) rfl ?_
        all_goals exact ⟨j, none, 0, h, by rw [E2.out]; rfl, rfl, hj, Le.refl h, RdIn.nil _ _, Nat.le_refl _, by unfold maxLen; omega, (tb_same ((S.out.drewN _).swap.set 2 (.string (s.extract i j)))).swap.sel2⟩
      have t2 : decide ((j : Int) < (s.size : Int)) = true := decide_eq_true (by omega)
      have h255 : j - i < 255 := by omega
      have hjl : j < s.size := by omega
      have hji : (j : Int) < (s.size : Int) := by omega
      have hrl := rem_lt hjl
      obtain ⟨k, hk⟩ : ∃ k, 255 - (j - i) = k + 1 := ⟨255 - (j - i) - 1, by omega⟩
      rw [hrl, hk] at HW
      have HK : Hid (255 - (j + 1 - i) = k) := hid (by omega)
      obtain ⟨bl, hbl⟩ : ∃ bl, letB ((s[j]).toNat : Int) = bl := ⟨_, rfl⟩
      obtain ⟨bd, hbd⟩ : ∃ bd, digB ((s[j]).toNat : Int) = bd := ⟨_, rfl⟩
      obtain ⟨bu, hbu⟩ : ∃ bu, (((s[j]).toNat : Int) == 95) = bu := ⟨_, rfl⟩
      have HCL : Hid (∀ wx, Calls Tryd.prog 71 #[.int .u8 ((s[j]).toNat : Int)] wx fun e w' => e = .returned (.bool bl) ∧ w' = wx) := hid fun wx => by
        have := letter_any ((s[j]).toNat : Int) wx
        rw [hbl] at this
        exact this.mono fun e w' ⟨he, hw⟩ => ⟨he, hw.symm⟩
      have HCD : Hid (∀ wx, Calls Tryd.prog 72 #[.int .u8 ((s[j]).toNat : Int)] wx fun e w' => e = .returned (.bool bd) ∧ w' = wx) := hid fun wx => by
        have := digit_any ((s[j]).toNat : Int) wx
        rw [hbd] at this
        exact this.mono fun e w' ⟨he, hw⟩ => ⟨he, hw.symm⟩
      have hwc : WordC ((s[j]).toNat : Int) ↔ (bl || (bd || bu)) = true := by
        unfold WordC
        rw [hbl, hbd]
        have : decide (((s[j]).toNat : Int) = 95) = bu := by rw [← hbu]; rfl
        rw [this]
      have HWC := hid hwc
      have S5 := hid (fun m => (S.out.drewN m).set 1 (.int .i64 ((j : Int) + 1)))
      clear hrl hbl hbd hwc hk hend hmax
      cases bl with
      | true =>
        have NJ : Hid (N = (j + 1 - i) + wcnt (255 - (j + 1 - i)) (rem s (j + 1))) := hid (by
          rw [HW.out, wcnt_more (HWC.out.2 (by rfl)), HK.out]
          omega)
        go_wp2_with fail
        go_quiet ((first | (go_at_call 71; exact Calls.quiet_of_same (HCL.out _)) | (go_at_call 72; exact Calls.quiet_of_same (HCD.out _))))
        go_wp2_with fail
        go_roundw
        case rel => exact ⟨j + 1, by omega, by omega, by omega, NJ, hid (S5.out _)⟩
        case measure =>
          have e1 : ∀ m, ((wr.drewN m).setCell ⟨p, 1, none⟩ (.int .i64 ((j : Int) + 1))).cell? ⟨p, 1, none⟩ = some (.int .i64 ((j + 1 : Nat) : Int)) := fun m => (S5.out m).cell 1
          rw [e1, a1]
          simp [intOf]; omega
      | false =>
      cases bd with
      | true =>
        have NJ : Hid (N = (j + 1 - i) + wcnt (255 - (j + 1 - i)) (rem s (j + 1))) := hid (by
          rw [HW.out, wcnt_more (HWC.out.2 (by rfl)), HK.out]
          omega)
        go_wp2_with fail
        go_quiet ((first | (go_at_call 71; exact Calls.quiet_of_same (HCL.out _)) | (go_at_call 72; exact Calls.quiet_of_same (HCD.out _))))
        go_wp2_with fail
        go_roundw
        case rel => exact ⟨j + 1, by omega, by omega, by omega, NJ, hid (S5.out _)⟩
        case measure =>
          have e1 : ∀ m, ((wr.drewN m).setCell ⟨p, 1, none⟩ (.int .i64 ((j : Int) + 1))).cell? ⟨p, 1, none⟩ = some (.int .i64 ((j + 1 : Nat) : Int)) := fun m => (S5.out m).cell 1
          rw [e1, a1]
          simp [intOf]; omega
      | false =>
      cases bu with
      | true =>
        have NJ : Hid (N = (j + 1 - i) + wcnt (255 - (j + 1 - i)) (rem s (j + 1))) := hid (by
          rw [HW.out, wcnt_more (HWC.out.2 (by rfl)), HK.out]
          omega)
        go_wp2_with fail
        go_quiet ((first | (go_at_call 71; exact Calls.quiet_of_same (HCL.out _)) | (go_at_call 72; exact Calls.quiet_of_same (HCD.out _))))
        go_wp2_with fail
        go_roundw
        case rel => exact ⟨j + 1, by omega, by omega, by omega, NJ, hid (S5.out _)⟩
        case measure =>
          have e1 : ∀ m, ((wr.drewN m).setCell ⟨p, 1, none⟩ (.int .i64 ((j : Int) + 1))).cell? ⟨p, 1, none⟩ = some (.int .i64 ((j + 1 : Nat) : Int)) := fun m => (S5.out m).cell 1
          rw [e1, a1]
          simp [intOf]; omega
      | false =>
        have NJ : Hid (N = j - i) := hid (by
          rw [HW.out, ← rem_lt hjl, wcnt_end (by rw [rem_lt hjl]; exact fun x => by have := HWC.out.1 x; cases this)]
          rfl)
        clear S5
        obtain rfl : q = some (mkT 2 0 (strOfNums ((rem s i).take (j - i))) [], true, rem s j) := by
          rw [HQ2.out, NJ.out]
          have e : (rem s i).drop (j - i) = rem s j := by unfold rem; rw [List.drop_drop]; congr 1; omega
          rw [e]
        have e2 := ext_take (s := s) (i := i) (k := j - i)
        rw [show i + (j - i) = j by omega] at e2
        have E2 := hid e2
        clear e2 HW
        have c2 : wr.cell? ⟨tb, 2, none⟩ = some (.string ⟨#[]⟩) := S.out.swap.cell 2
        have f2 := S.out.swap.free 2
        go_wp2_with fail
        go_quiet ((first | (go_at_call 71; exact Calls.quiet_of_same (HCL.out _)) | (go_at_call 72; exact Calls.quiet_of_same (HCD.out _))))
        have q0 : wr.cell? ⟨tb, 0, none⟩ = some (.int .i64 2) := S.out.swap.cell 0
        have q1 : wr.cell? ⟨tb, 1, none⟩ = some (.int .i64 0) := S.out.swap.cell 1
        have q3 : wr.cell? ⟨tb, 3, none⟩ = some (.slice none 0 0) := S.out.swap.cell 3
        have q4 : wr.cell? ⟨tb, 4, none⟩ = some (.slice none 0 0) := S.out.swap.cell 4
        have q5 : wr.cell? ⟨tb, 5, none⟩ = some (.slice none 0 0) := S.out.swap.cell 5
        have r0 := S.out.swap.free 0
        have r1 := S.out.swap.free 1
        have r3 := S.out.swap.free 3
        have r4 := S.out.swap.free 4
        have r5 := S.out.swap.free 5
        go_wp2_with fail
        go_region_law (fail)
        all_goals go_wp2_with fail
        all_goals refine bodyPost_ret (v := .tuple #[.agg (tv0 2 0 (s.extract i j) none 0 0), .bool true]) (by simp [results, Tryd.results66, go_sem, tv0, q0, q1, c2, q3, q4, q5]) rfl ?_
        all_goals exact ⟨j, none, 0, h, by rw [E2.out]; rfl, rfl, hj, Le.refl h, RdIn.nil _ _, Nat.le_refl _, by unfold maxLen; omega, (tb_same ((S.out.drewN _).swap.set 2 (.string (s.extract i j)))).swap.sel2⟩
  by_cases k45 : c = 45
  · have hlt : i < s.size := head_lt (by rw [HC.out]; omega)
    obtain ⟨d, hd⟩ : ∃ d, intF (rem s i) = d := ⟨_, rfl⟩
    have hq : q = d.map (fun x => (mkT 1 x.1 ByteArray.empty [], true, x.2)) := by
      rw [← HQ.out]; have hc := HC.out; rw [rem_lt hlt] at hc hd ⊢
      rw [show ((s[i]).toNat : Int) = c from hc] at hd ⊢
      rw [beginF, if_neg k123, if_neg (fun x => k91 x.1), if_neg k60, if_neg k35, if_neg k39, if_neg klet, if_pos (.inl k45), hd]
      cases d <;> rfl
    have HQ2 := hid hq
    have HD := hid hd
    have HLB : Hid (letB c = false) := hid (by cases hx : letB c with | false => rfl | true => exact absurd hx klet)
    have hb91 : (c == 91) = false := by simpa using k91
    have hb45 : (c == 45) = true := by simpa using k45
    clear hq HQ klet hd k45
    go_enter Tryd.func66, Tryd.ntmps66
    go_wp2_with fail
    rw [HTB.out]
    refine HP.out.mono ?_
    rintro e w1 ⟨rfl, s1⟩
    clear HP
    have HT2 := hid (take_no s1 123 hi (TKN.out 123 k123))
    clear s1
    go_wp2_with fail
    refine HT2.out.mono ?_
    rintro e w2 ⟨rfl, s2⟩
    clear HT2
    have HT3 := hid (take_no s2 60 hi (TKN.out 60 k60))
    clear s2
    go_wp2_with fail
    refine HT3.out.mono ?_
    rintro e w3 ⟨rfl, s3⟩
    clear HT3
    have HT4 := hid (take_no s3 35 hi (TKN.out 35 k35))
    clear s3
    go_wp2_with fail
    refine HT4.out.mono ?_
    rintro e w4 ⟨rfl, s4⟩
    clear HT4
    have HT5 := hid (take_no s4 39 hi (TKN.out 39 k39))
    clear s4
    go_wp2_with fail
    refine HT5.out.mono ?_
    rintro e w5 ⟨rfl, s5⟩
    clear HT5
    have HLT := hid (letter_any c w5)
    rw [HLB.out] at HLT
    go_wp2_with fail
    refine HLT.out.mono ?_
    rintro e w6 ⟨rfl, rfl⟩
    have c0 : World.cell? _ ⟨tb, 0, none⟩ = some (.int .i64 0) := s5.swap.cell 0
    have f0 := s5.swap.free 0
    have HB := hid (int_any (s5.swap.set 0 (.int .i64 1)).swap hi hs2)
    rw [HD.out] at HB
    clear s5 HLT
    go_wp2_with fail
    refine HB.out.mono ?_
    rintro e w7 hb
    clear HB
    cases d with
    | none =>
      have hq : q = none := HQ2.out
      subst hq
      obtain ⟨j, m, rfl, hj, s5⟩ := hb
      have c0 : World.cell? _ ⟨tb, 0, none⟩ = some (.int .i64 1) := (s5.swap).cell 0
      have c1 : World.cell? _ ⟨tb, 1, none⟩ = some (.int .i64 m) := (s5.swap).cell 1
      have c2 : World.cell? _ ⟨tb, 2, none⟩ = some (.string ⟨#[]⟩) := (s5.swap).cell 2
      have c3 : World.cell? _ ⟨tb, 3, none⟩ = some (.slice none 0 0) := (s5.swap).cell 3
      have c4 : World.cell? _ ⟨tb, 4, none⟩ = some (.slice none 0 0) := (s5.swap).cell 4
      have c5 : World.cell? _ ⟨tb, 5, none⟩ = some (.slice none 0 0) := (s5.swap).cell 5
      have f0 := (s5.swap).free 0
      have f1 := (s5.swap).free 1
      have f2 := (s5.swap).free 2
      have f3 := (s5.swap).free 3
      have f4 := (s5.swap).free 4
      have f5 := (s5.swap).free 5
      have S6 := hid (tb_same (s5.swap))
      go_wp2_with fail
      exact bodyPost_ret (v := .tuple #[.agg (tv0 1 m ⟨#[]⟩ none 0 0), .bool true]) (by simp [results, Tryd.results66, go_sem, tv0, c0, c1, c2, c3, c4, c5]) rfl ⟨j, 1, m, ⟨#[]⟩, none, 0, 0, rfl, hj, S6.out.swap.sel2⟩
    | some br =>
      obtain ⟨m, r2⟩ := br
      have hq : q = some (mkT 1 m ByteArray.empty [], true, r2) := HQ2.out
      subst hq
      obtain ⟨j, rfl, rfl, hj, s5⟩ := hb
      have c0 : World.cell? _ ⟨tb, 0, none⟩ = some (.int .i64 1) := (s5.swap).cell 0
      have c1 : World.cell? _ ⟨tb, 1, none⟩ = some (.int .i64 m) := (s5.swap).cell 1
      have c2 : World.cell? _ ⟨tb, 2, none⟩ = some (.string ⟨#[]⟩) := (s5.swap).cell 2
      have c3 : World.cell? _ ⟨tb, 3, none⟩ = some (.slice none 0 0) := (s5.swap).cell 3
      have c4 : World.cell? _ ⟨tb, 4, none⟩ = some (.slice none 0 0) := (s5.swap).cell 4
      have c5 : World.cell? _ ⟨tb, 5, none⟩ = some (.slice none 0 0) := (s5.swap).cell 5
      have f0 := (s5.swap).free 0
      have f1 := (s5.swap).free 1
      have f2 := (s5.swap).free 2
      have f3 := (s5.swap).free 3
      have f4 := (s5.swap).free 4
      have f5 := (s5.swap).free 5
      have S6 := hid (tb_same (s5.swap))
      go_wp2_with fail
      exact bodyPost_ret (v := .tuple #[.agg (tv0 1 m ⟨#[]⟩ none 0 0), .bool true]) (by simp [results, Tryd.results66, go_sem, tv0, c0, c1, c2, c3, c4, c5]) rfl ⟨j, none, 0, h, rfl, rfl, hj, Le.refl h, RdIn.nil _ _, Nat.le_refl _, by unfold maxLen; omega, S6.out.swap.sel2⟩
  by_cases kdig : digB c = true
  · have hdb := of_decide_eq_true kdig
    have hlt : i < s.size := head_lt (by rw [HC.out]; omega)
    obtain ⟨d, hd⟩ : ∃ d, intF (rem s i) = d := ⟨_, rfl⟩
    have hq : q = d.map (fun x => (mkT 1 x.1 ByteArray.empty [], true, x.2)) := by
      rw [← HQ.out]; have hc := HC.out; rw [rem_lt hlt] at hc hd ⊢
      rw [show ((s[i]).toNat : Int) = c from hc] at hd ⊢
      rw [beginF, if_neg k123, if_neg (fun x => k91 x.1), if_neg k60, if_neg k35, if_neg k39, if_neg klet, if_pos (.inr kdig), hd]
      cases d <;> rfl
    have HQ2 := hid hq
    have HD := hid hd
    have HLB : Hid (letB c = false) := hid (by cases hx : letB c with | false => rfl | true => exact absurd hx klet)
    have hb91 : (c == 91) = false := by simpa using k91
    have hb45 : (c == 45) = false := by simpa using k45
    have HDB := hid kdig
    clear hq HQ klet hd
    go_enter Tryd.func66, Tryd.ntmps66
    go_wp2_with fail
    rw [HTB.out]
    refine HP.out.mono ?_
    rintro e w1 ⟨rfl, s1⟩
    clear HP
    have HT2 := hid (take_no s1 123 hi (TKN.out 123 k123))
    clear s1
    go_wp2_with fail
    refine HT2.out.mono ?_
    rintro e w2 ⟨rfl, s2⟩
    clear HT2
    have HT3 := hid (take_no s2 60 hi (TKN.out 60 k60))
    clear s2
    go_wp2_with fail
    refine HT3.out.mono ?_
    rintro e w3 ⟨rfl, s3⟩
    clear HT3
    have HT4 := hid (take_no s3 35 hi (TKN.out 35 k35))
    clear s3
    go_wp2_with fail
    refine HT4.out.mono ?_
    rintro e w4 ⟨rfl, s4⟩
    clear HT4
    have HT5 := hid (take_no s4 39 hi (TKN.out 39 k39))
    clear s4
    go_wp2_with fail
    refine HT5.out.mono ?_
    rintro e w5 ⟨rfl, s5⟩
    clear HT5
    have HLT := hid (letter_any c w5)
    rw [HLB.out] at HLT
    go_wp2_with fail
    refine HLT.out.mono ?_
    rintro e w6 ⟨rfl, rfl⟩
    have c0 : World.cell? _ ⟨tb, 0, none⟩ = some (.int .i64 0) := s5.swap.cell 0
    have f0 := s5.swap.free 0
    have HB := hid (int_any (s5.swap.set 0 (.int .i64 1)).swap hi hs2)
    rw [HD.out] at HB
    have HDG := hid (digit_any c w5)
    rw [HDB.out] at HDG
    clear s5 HLT
    go_wp2_with fail
    refine HDG.out.mono ?_
    rintro e w6 ⟨rfl, rfl⟩
    go_wp2_with fail
    refine HB.out.mono ?_
    rintro e w7 hb
    clear HB
    cases d with
    | none =>
      have hq : q = none := HQ2.out
      subst hq
      obtain ⟨j, m, rfl, hj, s5⟩ := hb
      have c0 : World.cell? _ ⟨tb, 0, none⟩ = some (.int .i64 1) := (s5.swap).cell 0
      have c1 : World.cell? _ ⟨tb, 1, none⟩ = some (.int .i64 m) := (s5.swap).cell 1
      have c2 : World.cell? _ ⟨tb, 2, none⟩ = some (.string ⟨#[]⟩) := (s5.swap).cell 2
      have c3 : World.cell? _ ⟨tb, 3, none⟩ = some (.slice none 0 0) := (s5.swap).cell 3
      have c4 : World.cell? _ ⟨tb, 4, none⟩ = some (.slice none 0 0) := (s5.swap).cell 4
      have c5 : World.cell? _ ⟨tb, 5, none⟩ = some (.slice none 0 0) := (s5.swap).cell 5
      have f0 := (s5.swap).free 0
      have f1 := (s5.swap).free 1
      have f2 := (s5.swap).free 2
      have f3 := (s5.swap).free 3
      have f4 := (s5.swap).free 4
      have f5 := (s5.swap).free 5
      have S6 := hid (tb_same (s5.swap))
      go_wp2_with fail
      exact bodyPost_ret (v := .tuple #[.agg (tv0 1 m ⟨#[]⟩ none 0 0), .bool true]) (by simp [results, Tryd.results66, go_sem, tv0, c0, c1, c2, c3, c4, c5]) rfl ⟨j, 1, m, ⟨#[]⟩, none, 0, 0, rfl, hj, S6.out.swap.sel2⟩
    | some br =>
      obtain ⟨m, r2⟩ := br
      have hq : q = some (mkT 1 m ByteArray.empty [], true, r2) := HQ2.out
      subst hq
      obtain ⟨j, rfl, rfl, hj, s5⟩ := hb
      have c0 : World.cell? _ ⟨tb, 0, none⟩ = some (.int .i64 1) := (s5.swap).cell 0
      have c1 : World.cell? _ ⟨tb, 1, none⟩ = some (.int .i64 m) := (s5.swap).cell 1
      have c2 : World.cell? _ ⟨tb, 2, none⟩ = some (.string ⟨#[]⟩) := (s5.swap).cell 2
      have c3 : World.cell? _ ⟨tb, 3, none⟩ = some (.slice none 0 0) := (s5.swap).cell 3
      have c4 : World.cell? _ ⟨tb, 4, none⟩ = some (.slice none 0 0) := (s5.swap).cell 4
      have c5 : World.cell? _ ⟨tb, 5, none⟩ = some (.slice none 0 0) := (s5.swap).cell 5
      have f0 := (s5.swap).free 0
      have f1 := (s5.swap).free 1
      have f2 := (s5.swap).free 2
      have f3 := (s5.swap).free 3
      have f4 := (s5.swap).free 4
      have f5 := (s5.swap).free 5
      have S6 := hid (tb_same (s5.swap))
      go_wp2_with fail
      exact bodyPost_ret (v := .tuple #[.agg (tv0 1 m ⟨#[]⟩ none 0 0), .bool true]) (by simp [results, Tryd.results66, go_sem, tv0, c0, c1, c2, c3, c4, c5]) rfl ⟨j, none, 0, h, rfl, rfl, hj, Le.refl h, RdIn.nil _ _, Nat.le_refl _, by unfold maxLen; omega, S6.out.swap.sel2⟩
  have hq : q = none := by
    rw [← HQ.out]
    rcases Nat.lt_or_ge i s.size with hlt | hge
    · have hc := HC.out
      rw [rem_lt hlt] at hc ⊢
      rw [show ((s[i]).toNat : Int) = c from hc]
      rw [beginF, if_neg k123, if_neg (fun x => k91 x.1), if_neg k60, if_neg k35, if_neg k39, if_neg klet, if_neg (by rintro (x | x); exact k45 x; exact kdig x)]
    · rw [rem_end hge]; rfl
  subst hq
  have HLB : Hid (letB c = false) := hid (by cases hx : letB c with | false => rfl | true => exact absurd hx klet)
  have HDB : Hid (digB c = false) := hid (by cases hx : digB c with | false => rfl | true => exact absurd hx kdig)
  have hb91 : (c == 91) = false := by simpa using k91
  have hb45 : (c == 45) = false := by simpa using k45
  clear HQ klet kdig
  go_enter Tryd.func66, Tryd.ntmps66
  go_wp2_with fail
  rw [HTB.out]
  refine HP.out.mono ?_
  rintro e w1 ⟨rfl, s1⟩
  clear HP
  have HT2 := hid (take_no s1 123 hi (TKN.out 123 k123))
  clear s1
  go_wp2_with fail
  refine HT2.out.mono ?_
  rintro e w2 ⟨rfl, s2⟩
  clear HT2
  have HT3 := hid (take_no s2 60 hi (TKN.out 60 k60))
  clear s2
  go_wp2_with fail
  refine HT3.out.mono ?_
  rintro e w3 ⟨rfl, s3⟩
  clear HT3
  have HT4 := hid (take_no s3 35 hi (TKN.out 35 k35))
  clear s3
  go_wp2_with fail
  refine HT4.out.mono ?_
  rintro e w4 ⟨rfl, s4⟩
  clear HT4
  have HT5 := hid (take_no s4 39 hi (TKN.out 39 k39))
  clear s4
  go_wp2_with fail
  refine HT5.out.mono ?_
  rintro e w5 ⟨rfl, s5⟩
  clear HT5
  have HLT := hid (letter_any c w5)
  have HDG := hid (digit_any c w5)
  rw [HLB.out] at HLT
  rw [HDB.out] at HDG
  go_wp2_with fail
  refine HLT.out.mono ?_
  rintro e w6 ⟨rfl, rfl⟩
  go_wp2_with fail
  refine HDG.out.mono ?_
  rintro e w6 ⟨rfl, rfl⟩
  have b2 : w5.cell? ⟨p, 2, none⟩ = some (.bool false) := s5.cell 2
  have bf := s5.free 2
  have s6 := (s5.set 2 (.bool true)).swap
  have ltb := s5.swap.lt
  have c0 : World.cell? _ ⟨tb, 0, none⟩ = some (.int .i64 0) := (s5.swap).cell 0
  have c1 : World.cell? _ ⟨tb, 1, none⟩ = some (.int .i64 0) := (s5.swap).cell 1
  have c2 : World.cell? _ ⟨tb, 2, none⟩ = some (.string ⟨#[]⟩) := (s5.swap).cell 2
  have c3 : World.cell? _ ⟨tb, 3, none⟩ = some (.slice none 0 0) := (s5.swap).cell 3
  have c4 : World.cell? _ ⟨tb, 4, none⟩ = some (.slice none 0 0) := (s5.swap).cell 4
  have c5 : World.cell? _ ⟨tb, 5, none⟩ = some (.slice none 0 0) := (s5.swap).cell 5
  have f0 := (s5.swap).free 0
  have f1 := (s5.swap).free 1
  have f2 := (s5.swap).free 2
  have f3 := (s5.swap).free 3
  have f4 := (s5.swap).free 4
  have f5 := (s5.swap).free 5
  clear s5 HLT HDG
  have hne : p ≠ tb := NE.out
  have S6 := hid (tb_same (s6))
  go_wp2_with fail
  exact bodyPost_ret (v := .tuple #[.agg (tv0 0 0 ⟨#[]⟩ none 0 0), .bool true]) (by simp [results, Tryd.results66, go_sem, tv0, c0, c1, c2, c3, c4, c5]) rfl ⟨i, 0, 0, ⟨#[]⟩, none, 0, 0, rfl, hi, S6.out.swap.sel2⟩
end
#print axioms begin_any
end Go.Proofs.YteaabbghnfideaaDoor
