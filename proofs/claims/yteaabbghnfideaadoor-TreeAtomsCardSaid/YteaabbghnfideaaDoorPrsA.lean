/-
  tree.Parse: peek, take, must, digits: the walks.
-/
import Derived.Test.YteaabbghnfideaaDoorParA
import Derived.Deep.LoopGhost
import Derived.IntWalk
namespace Go.Proofs.YteaabbghnfideaaDoor
open Go.RowKit
set_option maxHeartbeats 4000000
set_option maxRecDepth 100000

/-- the parser in memory -/
def PB (p : Nat) (s : ByteArray) (i : Nat) (bad : Bool) : HP := blk p (.cells #[.string s, .int .i64 i, .bool bad] 88 (0, 0))
/-- what is left -/
def rem (s : ByteArray) (i : Nat) : List Int := (byts s).drop i
theorem rem_lt {s : ByteArray} {i : Nat} (h : i < s.size) : rem s i = ((s[i]).toNat : Int) :: rem s (i + 1) := by
  unfold rem
  rw [List.drop_eq_getElem_cons (by rw [byts_len]; exact h)]
  congr 1
  have := byts_get h
  rw [List.getElem?_eq_getElem (by rw [byts_len]; exact h)] at this
  exact Option.some.inj this
theorem rem_end {s : ByteArray} {i : Nat} (h : s.size ≤ i) : rem s i = [] := List.drop_of_length_le (by rw [byts_len]; exact h)
theorem tk_some {b : Int} {s : ByteArray} {i : Nat} {r : List Int} (h : tk b (rem s i) = some r) : ∃ hi : i < s.size, ((s[i]).toNat : Int) = b ∧ r = rem s (i + 1) := by
  rcases Nat.lt_or_ge i s.size with q | q
  · rw [rem_lt q, tk] at h
    split at h
    · rename_i e; exact ⟨q, e, (Option.some.inj h).symm⟩
    · cases h
  · rw [rem_end q] at h; cases h
theorem tk_none {b : Int} {s : ByteArray} {i : Nat} (hi : i < s.size) (h : tk b (rem s i) = none) : ((s[i]).toNat : Int) ≠ b := by
  rw [rem_lt hi, tk] at h
  split at h
  · cases h
  · assumption
section
variable {W w : World} {L : List HP} {p i : Nat} {s : ByteArray}
theorem peek_bad (S : Sat W w (PB p s i true :: L)) (hi : i ≤ s.size) : Calls Tryd.prog 77 #[.pointer (some ⟨p, 0, none⟩)] w fun e w' => e = .returned (.int .u8 0) ∧ Sat W w' (PB p s i true :: L) := by
  have S1 := hid S
  have c0 : w.cell? ⟨p, 0, none⟩ = some (.string s) := S.cell 0
  have c1 : w.cell? ⟨p, 1, none⟩ = some (.int .i64 i) := S.cell 1
  have c2 : w.cell? ⟨p, 2, none⟩ = some (.bool true) := S.cell 2
  clear S
  by_cases hlt : i < s.size
  · have hd : decide ((i : Int) < (s.size : Int)) = true := decide_eq_true (by omega)
    go_enter Tryd.func77, Tryd.ntmps77
    go_wp2_with fail
    go_quiet (fail)
    go_wp2_with fail
    go_ret
    exact ⟨rfl, S1.out.drewN _⟩
  · have hd : decide ((i : Int) < (s.size : Int)) = false := decide_eq_false (by omega)
    go_enter Tryd.func77, Tryd.ntmps77
    go_wp2_with fail
    go_quiet (fail)
    go_wp2_with fail
    go_ret
    exact ⟨rfl, S1.out.drewN _⟩
theorem peek_any (S : Sat W w (PB p s i false :: L)) (hi : i ≤ s.size) : Calls Tryd.prog 77 #[.pointer (some ⟨p, 0, none⟩)] w fun e w' => e = .returned (.int .u8 (headI (rem s i))) ∧ Sat W w' (PB p s i false :: L) := by
  have S1 := hid S
  have c0 : w.cell? ⟨p, 0, none⟩ = some (.string s) := S.cell 0
  have c1 : w.cell? ⟨p, 1, none⟩ = some (.int .i64 i) := S.cell 1
  have c2 : w.cell? ⟨p, 2, none⟩ = some (.bool false) := S.cell 2
  clear S
  by_cases hlt : i < s.size
  · have hd : decide ((i : Int) < (s.size : Int)) = true := decide_eq_true (by omega)
    have hr := rem_lt hlt
    rw [hr]
    clear hr
    go_enter Tryd.func77, Tryd.ntmps77
    go_wp2_with fail
    go_quiet (fail)
    go_wp2_with fail
    go_quiet (fail)
    go_wp2_with fail
    go_ret
    exact ⟨rfl, (S1.out.drewN _).drewN _⟩
  · have hd : decide ((i : Int) < (s.size : Int)) = false := decide_eq_false (by omega)
    rw [rem_end (by omega)]
    go_enter Tryd.func77, Tryd.ntmps77
    go_wp2_with fail
    go_quiet (fail)
    go_wp2_with fail
    go_ret
    exact ⟨rfl, S1.out.drewN _⟩
theorem take_bad (S : Sat W w (PB p s i true :: L)) (b : Int) : Calls Tryd.prog 78 #[.pointer (some ⟨p, 0, none⟩), .int .u8 b] w fun e w' => e = .returned (.bool false) ∧ Sat W w' (PB p s i true :: L) := by
  have S1 := hid S
  have c2 : w.cell? ⟨p, 2, none⟩ = some (.bool true) := S.cell 2
  clear S
  go_enter Tryd.func78, Tryd.ntmps78
  go_wp2_with fail
  go_quiet (fail)
  go_wp2_with fail
  go_ret
  exact ⟨rfl, S1.out.drewN _⟩
theorem take_no (S : Sat W w (PB p s i false :: L)) (b : Int) (hi : i ≤ s.size) (ht : tk b (rem s i) = none) : Calls Tryd.prog 78 #[.pointer (some ⟨p, 0, none⟩), .int .u8 b] w fun e w' => e = .returned (.bool false) ∧ Sat W w' (PB p s i false :: L) := by
  have S1 := hid S
  have c0 : w.cell? ⟨p, 0, none⟩ = some (.string s) := S.cell 0
  have c1 : w.cell? ⟨p, 1, none⟩ = some (.int .i64 i) := S.cell 1
  have c2 : w.cell? ⟨p, 2, none⟩ = some (.bool false) := S.cell 2
  clear S
  by_cases hlt : i < s.size
  · have hd : ((i : Int) == (s.size : Int)) = false := by simp; omega
    have hne := tk_none hlt ht
    have hb : (((s[i]).toNat : Int) != b) = true := by simpa using hne
    clear ht hne
    go_enter Tryd.func78, Tryd.ntmps78
    go_wp2_with fail
    go_quiet (fail)
    go_wp2_with fail
    go_ret
    exact ⟨rfl, S1.out.drewN _⟩
  · obtain rfl : i = s.size := by omega
    clear ht
    go_enter Tryd.func78, Tryd.ntmps78
    go_wp2_with fail
    go_quiet (fail)
    go_wp2_with fail
    go_ret
    exact ⟨rfl, S1.out.drewN _⟩
theorem take_yes (S : Sat W w (PB p s i false :: L)) (b : Int) (hs : s.size ≤ 140737488351232) {r : List Int} (ht : tk b (rem s i) = some r) : Calls Tryd.prog 78 #[.pointer (some ⟨p, 0, none⟩), .int .u8 b] w fun e w' => e = .returned (.bool true) ∧ Sat W w' (PB p s (i + 1) false :: L) := by
  obtain ⟨hlt, hb, _⟩ := tk_some ht
  have S1 := hid ((S.set 1 (.int .i64 ((i : Int) + 1))))
  have c0 : w.cell? ⟨p, 0, none⟩ = some (.string s) := S.cell 0
  have c1 : w.cell? ⟨p, 1, none⟩ = some (.int .i64 i) := S.cell 1
  have c2 : w.cell? ⟨p, 2, none⟩ = some (.bool false) := S.cell 2
  have f1 := S.free 1
  have hd : ((i : Int) == (s.size : Int)) = false := by simp; omega
  have hne : (((s[i]).toNat : Int) != b) = false := by simpa using hb
  clear S ht hb
  go_enter Tryd.func78, Tryd.ntmps78
  go_wp2_with fail
  go_quiet (fail)
  go_wp2_with fail
  go_ret
  exact ⟨rfl, S1.out.drewN _⟩
theorem must_yes (S : Sat W w (PB p s i false :: L)) (b : Int) (hs : s.size ≤ 140737488351232) {r : List Int} (ht : tk b (rem s i) = some r) : Calls Tryd.prog 83 #[.pointer (some ⟨p, 0, none⟩), .int .u8 b] w fun e w' => e = .returned (.tuple #[]) ∧ Sat W w' (PB p s (i + 1) false :: L) := by
  have HT := hid (take_yes S b hs ht)
  clear S
  go_enter Tryd.func83, Tryd.ntmps83
  go_wp2_with fail
  refine HT.out.mono ?_
  rintro e w1 ⟨rfl, s1⟩
  have c2 : w1.cell? ⟨p, 2, none⟩ = some (.bool false) := s1.cell 2
  have f2 := s1.free 2
  have S2 := hid (s1.set 2 (.bool false))
  clear s1 HT
  go_wp2_with fail
  go_end0
  exact ⟨rfl, S2.out⟩
theorem must_no (S : Sat W w (PB p s i false :: L)) (b : Int) (hi : i ≤ s.size) (ht : tk b (rem s i) = none) : Calls Tryd.prog 83 #[.pointer (some ⟨p, 0, none⟩), .int .u8 b] w fun e w' => e = .returned (.tuple #[]) ∧ Sat W w' (PB p s i true :: L) := by
  have HT := hid (take_no S b hi ht)
  clear S
  go_enter Tryd.func83, Tryd.ntmps83
  go_wp2_with fail
  refine HT.out.mono ?_
  rintro e w1 ⟨rfl, s1⟩
  have c2 : w1.cell? ⟨p, 2, none⟩ = some (.bool false) := s1.cell 2
  have f2 := s1.free 2
  have S2 := hid (s1.set 2 (.bool true))
  clear s1 HT
  go_wp2_with fail
  go_end0
  exact ⟨rfl, S2.out⟩
theorem must_bad (S : Sat W w (PB p s i true :: L)) (b : Int) : Calls Tryd.prog 83 #[.pointer (some ⟨p, 0, none⟩), .int .u8 b] w fun e w' => e = .returned (.tuple #[]) ∧ Sat W w' (PB p s i true :: L) := by
  have HT := hid (take_bad S b)
  clear S
  go_enter Tryd.func83, Tryd.ntmps83
  go_wp2_with fail
  refine HT.out.mono ?_
  rintro e w1 ⟨rfl, s1⟩
  have c2 : w1.cell? ⟨p, 2, none⟩ = some (.bool true) := s1.cell 2
  have f2 := s1.free 2
  have S2 := hid (s1.set 2 (.bool true))
  clear s1 HT
  go_wp2_with fail
  go_end0
  exact ⟨rfl, S2.out⟩
/-- what digits leaves -/
def DigP (W : World) (L : List HP) (p : Nat) (s : ByteArray) (i : Nat) (q : Option (Int × List Int)) (e : Ending) (w' : World) : Prop := match q with
  | some (n, r) => ∃ j, e = .returned (.int .u64 n) ∧ r = rem s j ∧ j ≤ s.size ∧ Sat W w' (PB p s j false :: L)
  | none => e = .returned (.int .u64 0) ∧ Sat W w' (PB p s i true :: L)
theorem digits_any (S : Sat W w (PB p s i false :: L)) (most : Int) (hi : i ≤ s.size) (hs : s.size ≤ 140737488351232) (hm : 255 ≤ most ∧ most ≤ 9223372036854775808) :
    Calls Tryd.prog 90 #[.pointer (some ⟨p, 0, none⟩), .int .u64 most] w (DigP W L p s i (digitsF most (rem s i))) := by
  obtain ⟨hm1, hm2⟩ := hm
  obtain ⟨q, HQ⟩ : ∃ q, Hid (digitsF most (rem s i) = q) := ⟨_, hid rfl⟩
  rw [HQ.out]
  cases ht : tk 48 (rem s i) with
  | some r =>
    have HT := hid (take_yes S 48 hs ht)
    obtain ⟨hlt, hb, hr⟩ := tk_some ht
    have hq : q = some (0, rem s (i + 1)) := by rw [← HQ.out, rem_lt hlt, digitsF, if_pos hb]
    subst hq
    clear S ht hb hr
    go_enter Tryd.func90, Tryd.ntmps90
    go_wp2_with fail
    refine HT.out.mono ?_
    rintro e w1 ⟨rfl, s1⟩
    have S2 := hid s1
    clear s1 HT
    go_wp2_with fail
    go_ret
    exact ⟨i + 1, rfl, rfl, by omega, S2.out⟩
  | none =>
    have HT := hid (take_no S 48 hi ht)
    cases hd : digB (headI (rem s i)) with
    | false =>
      have hq : q = none := by
        rw [← HQ.out]
        rcases Nat.lt_or_ge i s.size with hlt | hge
        · rw [rem_lt hlt] at hd ⊢
          rw [digitsF, if_neg (tk_none hlt ht), if_neg (by rw [show digB ((s[i]).toNat : Int) = false from hd]; simp)]
        · rw [rem_end hge]; rfl
      subst hq
      have HD := hid hd
      clear S ht hd
      go_enter Tryd.func90, Tryd.ntmps90
      go_wp2_with fail
      refine HT.out.mono ?_
      rintro e w1 ⟨rfl, s1⟩
      have HP := hid (peek_any s1 hi)
      clear s1 HT
      go_wp2_with fail
      refine HP.out.mono ?_
      rintro e w2 ⟨rfl, s2⟩
      have c2 : w2.cell? ⟨p, 2, none⟩ = some (.bool false) := s2.cell 2
      have f2 := s2.free 2
      have S3 := hid (s2.set 2 (.bool true))
      clear s2 HP
      have HDG := hid (digit_any (headI (rem s i)) w2)
      rw [HD.out] at HDG
      go_wp2_with fail
      refine HDG.out.mono ?_
      rintro e w3 ⟨rfl, rfl⟩
      go_wp2_with fail
      go_ret
      exact ⟨rfl, S3.out⟩
    | true =>
      have hlt : i < s.size := by
        rcases Nat.lt_or_ge i s.size with hlt | hge
        · exact hlt
        · rw [rem_end hge] at hd; cases hd
      have hq : q = some (digs most 0 (rem s i)) := by
        rw [← HQ.out, rem_lt hlt, digitsF, if_neg (tk_none hlt ht), if_pos (by rw [rem_lt hlt] at hd; exact hd)]
      have HQ2 := hid hq
      have HD := hid hd
      clear S ht hd hq HQ
      go_enter Tryd.func90, Tryd.ntmps90
      go_wp2_with fail
      refine HT.out.mono ?_
      rintro e w1 ⟨rfl, s1⟩
      have HP := hid (peek_any s1 hi)
      clear s1 HT
      go_wp2_with fail
      refine HP.out.mono ?_
      rintro e w2 ⟨rfl, s2⟩
      have S2 := hid s2
      clear s2 HP
      have HDG := hid (digit_any (headI (rem s i)) w2)
      rw [HD.out] at HDG
      go_wp2_with fail
      refine HDG.out.mono ?_
      rintro e w3 ⟨rfl, rfl⟩
      clear HDG
      go_wp2_with fail
      go_loopw [5] (fun nv wr => ∃ (j : Nat) (n : Int), j ≤ s.size ∧ nv = .int .u64 n ∧ 0 ≤ n ∧ n ≤ most ∧ Hid (q = some (digs most n (rem s j))) ∧ Hid (Sat W wr (PB p s j false :: L))) (fun _ wr => match wr.cell? ⟨p, 1, none⟩ with | some v => s.size - (intOf v).toNat | none => 0)
      case atStart => exact ⟨i, 0, hi, rfl, by omega, by omega, HQ2, S2⟩
      case round =>
        obtain ⟨j, n, hj, rfl, hn0, hn1, HR, S⟩ := hrel
        clear S2
        have c0 : wr.cell? ⟨p, 0, none⟩ = some (.string s) := S.out.cell 0
        have c1 : wr.cell? ⟨p, 1, none⟩ = some (.int .i64 j) := S.out.cell 1
        have f1 := S.out.free 1
        by_cases hjl : j < s.size
        · have hdl : decide ((j : Int) < (s.size : Int)) = true := decide_eq_true (by omega)
          have hji : (j : Int) < (s.size : Int) := by omega
          obtain ⟨c, HC⟩ : ∃ c : Int, Hid (((s[j]).toNat : Int) = c) := ⟨_, hid rfl⟩
          have hc255 : 0 ≤ ((s[j]).toNat : Int) ∧ ((s[j]).toNat : Int) ≤ 255 := by have := (s[j]).toNat_lt; omega
          obtain ⟨b, hb⟩ : ∃ b, digB ((s[j]).toNat : Int) = b := ⟨_, rfl⟩
          have HDD : Hid (∀ wx, Calls Tryd.prog 72 #[.int .u8 ((s[j]).toNat : Int)] wx fun e w' => e = .returned (.bool b) ∧ w' = wx) := hid fun wx => by
            have := digit_any ((s[j]).toNat : Int) wx
            rw [hb] at this
            exact this.mono fun e w' ⟨he, hw⟩ => ⟨he, hw.symm⟩
          have hrl := rem_lt hjl
          rw [hrl] at HR
          have HRL := hid hrl
          have HB := hid hb
          cases b with
          | false =>
            have hq : q = some (n, rem s j) := by
              rw [HR.out, digs, if_neg (by rw [HB.out]; simp), ← HRL.out]
            subst hq
            clear hrl hb HR HC
            go_wp2_with fail
            go_quiet ((go_at_call 72; exact Calls.quiet_of_same (HDD.out _)))
            go_wp2_with fail
            go_ret
            exact ⟨j, rfl, rfl, hj, S.out.drewN _⟩
          | true =>
            have hdd := of_decide_eq_true hb
            obtain ⟨hd1, hd2⟩ := hdd
            by_cases hbr : n > (most - (((s[j]).toNat : Int) - 48)) / 10
            · have hq : q = some (n, rem s j) := by
                rw [HR.out, digs, if_neg (fun x => x.2 hbr), ← HRL.out]
              subst hq
              clear hrl hb HR HC
              go_wp2_with fail
              go_quiet ((go_at_call 72; exact Calls.quiet_of_same (HDD.out _)))
              go_wp2_with fail
              go_quiet (fail)
              go_wp2_with fail
              go_ret
              exact ⟨j, rfl, rfl, hj, S.out.drewN _⟩
            · have hnx : 10 * n + (((s[j]).toNat : Int) - 48) ≤ most := by omega
              have hq : q = some (digs most (10 * n + (((s[j]).toNat : Int) - 48)) (rem s (j + 1))) := by
                rw [HR.out, digs, if_pos ⟨HB.out, hbr⟩]
              have HQ3 := hid hq
              have S2 : Hid (∀ m, Sat W ((wr.drewN m).setCell ⟨p, 1, none⟩ (.int .i64 ((j : Int) + 1))) (PB p s (j + 1) false :: L)) := hid fun m => (S.out.drewN m).set 1 (.int .i64 ((j : Int) + 1))
              clear hrl hb HR HC hq
              go_wp2_with fail
              go_quiet ((go_at_call 72; exact Calls.quiet_of_same (HDD.out _)))
              go_wp2_with fail
              go_quiet (fail)
              go_wp2_with fail
              go_roundw
              case rel => exact ⟨j + 1, 10 * n + (((s[j]).toNat : Int) - 48), by omega, rfl, by omega, hnx, HQ3, hid (S2.out _)⟩
              case measure =>
                have e1 : ∀ m, ((wr.drewN m).setCell ⟨p, 1, none⟩ (.int .i64 ((j : Int) + 1))).cell? ⟨p, 1, none⟩ = some (.int .i64 ((j + 1 : Nat) : Int)) := fun m => (S2.out m).cell 1
                rw [e1, c1]
                simp [intOf]; omega
        · have hdl : decide ((j : Int) < (s.size : Int)) = false := decide_eq_false (by omega)
          have hq : q = some (n, rem s j) := by
            rw [HR.out, rem_end (by omega), digs]
          subst hq
          clear HR
          go_wp2_with fail
          go_quiet (fail)
          go_wp2_with fail
          go_ret
          exact ⟨j, rfl, rfl, hj, S.out.drewN _⟩
end
end Go.Proofs.YteaabbghnfideaaDoor
