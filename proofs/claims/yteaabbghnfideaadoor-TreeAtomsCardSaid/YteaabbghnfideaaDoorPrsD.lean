/-
  tree.Parse: escape: the walk.
-/
import Derived.Test.YteaabbghnfideaaDoorPrsC
import Derived.Test.YteaabbghnfideaaDoorShelf
namespace Go.Proofs.YteaabbghnfideaaDoor
open Go.RowKit
set_option maxHeartbeats 4000000
set_option maxRecDepth 100000

theorem or_hex : ∀ a b : Fin 16, Go.bits .or .i64 ((a.1 : Int) * 16) (b.1 : Int) = 16 * (a.1 : Int) + (b.1 : Int) := by decide +kernel
theorem hex_idx : ∀ c : Fin 256, Lib.indexByte [48, 49, 50, 51, 52, 53, 54, 55, 56, 57, 97, 98, 99, 100, 101, 102] (UInt8.ofNat c.1) = hexI c.1 := by decide +kernel
theorem escF_q {c : Int} {r : List Int} (h : c = 39 ∨ c = 92) : escF (c :: r) = some (c, r) := by unfold escF; exact if_pos h
theorem escF_n {c : Int} {r : List Int} (h : ¬ (c = 39 ∨ c = 92)) (h2 : c ≠ 120) : escF (c :: r) = none := by
  unfold escF
  show (if c = 39 ∨ c = 92 then some (c, r) else if c = 120 then _ else none) = none
  rw [if_neg h, if_neg h2]
def escX : List Int → Option (Int × List Int)
  | [] => none
  | [_] => none
  | h :: l :: r' => if hexI h < 0 ∨ (1 < hexI h ∧ hexI h < 7) then none else if hexI l < 0 ∨ oddB (16 * hexI h + hexI l) = false then none else some (16 * hexI h + hexI l, r')
theorem escF_x {c : Int} {r : List Int} (h : ¬ (c = 39 ∨ c = 92)) (h2 : c = 120) : escF (c :: r) = escX r := by
  unfold escF
  show (if c = 39 ∨ c = 92 then some (c, r) else if c = 120 then _ else none) = _
  rw [if_neg h, if_pos h2]
  cases r with
  | nil => rfl
  | cons a r => cases r with
    | nil => rfl
    | cons b r => rfl
theorem escX_bad {r : List Int} (h : hexI (headI r) < 0 ∨ (1 < hexI (headI r) ∧ hexI (headI r) < 7)) : escX r = none := by
  cases r with
  | nil => rfl
  | cons a r => cases r with
    | nil => rfl
    | cons b r => exact if_pos h
theorem escX_bad2 {a : Int} {r : List Int} (h : r = [] ∨ hexI (headI r) < 0 ∨ oddB (16 * hexI a + hexI (headI r)) = false) : escX (a :: r) = none := by
  cases r with
  | nil => rfl
  | cons b r =>
    show (if hexI a < 0 ∨ (1 < hexI a ∧ hexI a < 7) then none else if hexI b < 0 ∨ oddB (16 * hexI a + hexI b) = false then none else some (16 * hexI a + hexI b, r)) = none
    split
    · rfl
    · rw [if_pos]
      rcases h with h | h | h
      · cases h
      · exact .inl h
      · exact .inr h
theorem escX_ok {a b : Int} {r : List Int} (h : ¬ (hexI a < 0 ∨ (1 < hexI a ∧ hexI a < 7))) (h2 : ¬ hexI b < 0) (h3 : oddB (16 * hexI a + hexI b) = true) : escX (a :: b :: r) = some (16 * hexI a + hexI b, r) := by
  show (if hexI a < 0 ∨ (1 < hexI a ∧ hexI a < 7) then none else if hexI b < 0 ∨ oddB (16 * hexI a + hexI b) = false then none else some (16 * hexI a + hexI b, r)) = _
  rw [if_neg h, if_neg (by rw [h3]; rintro (q | q); exact h2 q; cases q)]
section
variable {W w : World} {L : List HP} {p i : Nat} {s : ByteArray}
theorem hex_any (c : Int) (hc : 0 ≤ c ∧ c ≤ 255) : Calls Tryd.prog 97 #[.string ⟨#[48, 49, 50, 51, 52, 53, 54, 55, 56, 57, 97, 98, 99, 100, 101, 102]⟩, .int .u8 c] w fun e w' => e = .returned (.int .i64 (hexI c)) ∧ w' = w := by
  have := hex_idx ⟨c.toNat, by omega⟩
  simp only at this
  rw [Int.toNat_of_nonneg hc.1] at this
  rw [← this]
  exact Tryd.strings_IndexByte _ c w
theorem hexI_bd (c : Int) : -1 ≤ hexI c ∧ hexI c ≤ 15 := by unfold hexI; split; omega; split; omega; omega
theorem head_bd (s : ByteArray) (i : Nat) : 0 ≤ headI (rem s i) ∧ headI (rem s i) ≤ 255 := by
  rcases Nat.lt_or_ge i s.size with h | h
  · rw [rem_lt h]
    have := (s[i]).toNat_lt
    show 0 ≤ ((s[i]).toNat : Int) ∧ ((s[i]).toNat : Int) ≤ 255
    omega
  · rw [rem_end h]; exact ⟨by decide, by decide⟩
def EscP (W : World) (L : List HP) (p : Nat) (s : ByteArray) (q : Option (Int × List Int)) (e : Ending) (w' : World) : Prop := match q with
  | some (d, r) => ∃ j, e = .returned (.int .u8 d) ∧ j < s.size ∧ r = rem s (j + 1) ∧ Sat W w' (PB p s j false :: L)
  | none => ∃ j, e = .returned (.int .u8 0) ∧ j ≤ s.size ∧ Sat W w' (PB p s j true :: L)
theorem escape_any (S : Sat W w (PB p s i false :: L)) (hi : i ≤ s.size) (hs : s.size ≤ 4294967296) :
    Calls Tryd.prog 91 #[.pointer (some ⟨p, 0, none⟩)] w (EscP W L p s (escF (rem s i))) := by
  have hs2 : s.size ≤ 140737488351232 := by omega
  obtain ⟨q, HQ⟩ : ∃ q, Hid (escF (rem s i) = q) := ⟨_, hid rfl⟩
  rw [HQ.out]
  have hpk := peek_any S hi
  by_cases hq39 : headI (rem s i) = 39 ∨ headI (rem s i) = 92
  · have hlt : i < s.size := by
      rcases Nat.lt_or_ge i s.size with h | h
      · exact h
      · rw [rem_end h] at hq39; rcases hq39 with q | q <;> exact absurd q (by decide)
    have hrl := rem_lt hlt
    rw [hrl] at hq39 hpk
    have hq : q = some (((s[i]).toNat : Int), rem s (i + 1)) := by rw [← HQ.out, hrl]; exact escF_q hq39
    subst hq
    have hq39' : ((s[i]).toNat : Int) = 39 ∨ ((s[i]).toNat : Int) = 92 := hq39
    have HP := hid hpk
    have hil : (i : Int) < (s.size : Int) := by omega
    clear S HQ hrl hq39 hpk
    rcases hq39' with h | h
    · have hb : (((s[i]).toNat : Int) == 39) = true := by simpa using h
      have H9 := hid h
      clear h
      go_enter Tryd.func91, Tryd.ntmps91
      go_wp2_with fail
      refine HP.out.mono ?_
      rintro e w1 ⟨rfl, s1⟩
      have hb2 : (headI (((s[i]).toNat : Int) :: rem s (i + 1)) == 39) = true := hb
      have c0 : w1.cell? ⟨p, 0, none⟩ = some (.string s) := s1.cell 0
      have c1 : w1.cell? ⟨p, 1, none⟩ = some (.int .i64 i) := s1.cell 1
      have S2 := hid s1
      clear HP s1
      go_wp2_with fail
      go_quiet (fail)
      go_wp2_with fail
      go_ret
      exact ⟨i, rfl, hlt, rfl, S2.out.drewN _⟩
    · have hb2 : (headI (((s[i]).toNat : Int) :: rem s (i + 1)) == 39) = false := by show (((s[i]).toNat : Int) == 39) = false; rw [h]; decide
      have hb3 : (headI (((s[i]).toNat : Int) :: rem s (i + 1)) == 92) = true := by show (((s[i]).toNat : Int) == 92) = true; rw [h]; decide
      have H9 := hid h
      clear h
      go_enter Tryd.func91, Tryd.ntmps91
      go_wp2_with fail
      refine HP.out.mono ?_
      rintro e w1 ⟨rfl, s1⟩
      have hpk2 := peek_any s1 hi
      rw [rem_lt hlt] at hpk2
      have HP2 := hid hpk2
      clear HP s1 hpk2
      go_wp2_with fail
      refine HP2.out.mono ?_
      rintro e w1 ⟨rfl, s1⟩
      have c0 : w1.cell? ⟨p, 0, none⟩ = some (.string s) := s1.cell 0
      have c1 : w1.cell? ⟨p, 1, none⟩ = some (.int .i64 i) := s1.cell 1
      have S2 := hid s1
      clear HP2 s1
      go_wp2_with fail
      go_quiet (fail)
      go_wp2_with fail
      go_ret
      exact ⟨i, rfl, hlt, rfl, S2.out.drewN _⟩
  · have hb2 : (headI (rem s i) == 39) = false := by simp; omega
    have hb3 : (headI (rem s i) == 92) = false := by simp; omega
    have HP := hid hpk
    have HQ39 := hid hq39
    clear hpk hq39
    cases ht : tk 120 (rem s i) with
    | none =>
      have hq : q = none := by
        rw [← HQ.out]
        rcases Nat.lt_or_ge i s.size with h | h
        · have h39 := HQ39.out
          rw [rem_lt h] at h39 ⊢
          exact escF_n h39 (tk_none h ht)
        · rw [rem_end h]; rfl
      subst hq
      have HT0 := hid ht
      clear S ht HQ
      go_enter Tryd.func91, Tryd.ntmps91
      go_wp2_with fail
      refine HP.out.mono ?_
      rintro e w1 ⟨rfl, s1⟩
      have HP2 := hid (peek_any s1 hi)
      clear HP s1
      go_wp2_with fail
      refine HP2.out.mono ?_
      rintro e w2 ⟨rfl, s2⟩
      have HT := hid (take_no s2 120 hi HT0.out)
      clear HP2 s2
      go_wp2_with fail
      refine HT.out.mono ?_
      rintro e w3 ⟨rfl, s3⟩
      have c2 : w3.cell? ⟨p, 2, none⟩ = some (.bool false) := s3.cell 2
      have f2 := s3.free 2
      have S3 := hid (s3.set 2 (.bool true))
      clear HT s3
      go_wp2_with fail
      go_ret
      exact ⟨i, rfl, hi, S3.out⟩
    | some r1 =>
      obtain ⟨hlt, hc, hr1⟩ := tk_some ht
      subst hr1
      have hq : q = escX (rem s (i + 1)) := by
        rw [← HQ.out]
        have h39 := HQ39.out
        rw [rem_lt hlt] at h39 ⊢
        exact escF_x h39 hc
      have HQ2 := hid hq
      have HT0 := hid ht
      have hbd := hexI_bd (headI (rem s (i + 1)))
      have hbh := head_bd s (i + 1)
      clear S ht HQ hq hc
      go_enter Tryd.func91, Tryd.ntmps91
      go_wp2_with fail
      refine HP.out.mono ?_
      rintro e w1 ⟨rfl, s1⟩
      have HP2 := hid (peek_any s1 hi)
      clear HP s1
      go_wp2_with fail
      refine HP2.out.mono ?_
      rintro e w2 ⟨rfl, s2⟩
      have HT := hid (take_yes s2 120 hs2 HT0.out)
      clear HP2 s2
      go_wp2_with fail
      refine HT.out.mono ?_
      rintro e w3 ⟨rfl, s3⟩
      have HP3 := hid (peek_any s3 (by omega))
      clear HT s3
      go_wp2_with fail
      refine HP3.out.mono ?_
      rintro e w4 ⟨rfl, s4⟩
      have HX := hid (hex_any (w := w4) (headI (rem s (i + 1))) hbh)
      have c0 : w4.cell? ⟨p, 0, none⟩ = some (.string s) := s4.cell 0
      have c1 : w4.cell? ⟨p, 1, none⟩ = some (.int .i64 ((i + 1 : Nat) : Int)) := s4.cell 1
      have c2 : w4.cell? ⟨p, 2, none⟩ = some (.bool false) := s4.cell 2
      have f2 := s4.free 2
      have f1 := s4.free 1
      have S4 := hid s4
      clear HP3 s4
      go_wp2_with fail
      refine HX.out.mono ?_
      rintro e w5 ⟨rfl, rfl⟩
      clear HX
      obtain ⟨hh, HH⟩ : ∃ hh, Hid (hexI (headI (rem s (i + 1))) = hh) := ⟨_, hid rfl⟩
      rw [HH.out] at hbd ⊢
      obtain ⟨hbd1, hbd2⟩ := hbd
      have hn1 : ((i + 1 : Nat) : Int) = (i : Int) + 1 := by omega
      by_cases hbadh : hh < 0 ∨ (1 < hh ∧ hh < 7)
      · have hq : q = none := by rw [HQ2.out]; exact escX_bad (by rw [HH.out]; exact hbadh)
        subst hq
        have S5 := hid (fun m => (S4.out.drewN m).set 2 (.bool true))
        have HBH := hid hbadh
        by_cases hend : i + 1 = s.size
        · have he : ((i : Int) + 1 == (s.size : Int)) = true := by simp; omega
          clear hbadh HQ2
          go_wp2_with fail
          go_quiet (fail)
          go_wp2_with fail
          go_ret
          exact ⟨i + 1, rfl, by omega, S5.out _⟩
        · have he : ((i : Int) + 1 == (s.size : Int)) = false := by simp; omega
          clear hbadh HQ2
          by_cases hneg : hh < 0
          · go_wp2_with fail
            go_quiet (fail)
            go_wp2_with fail
            go_ret
            exact ⟨i + 1, rfl, by omega, S5.out _⟩
          · have hm1 : 1 < hh := by have := HBH.out; omega
            have hm2 : hh < 7 := by have := HBH.out; omega
            go_wp2_with fail
            go_quiet (fail)
            go_wp2_with fail
            go_ret
            exact ⟨i + 1, rfl, by omega, S5.out _⟩
      · have hlt2 : i + 1 < s.size := by
          rcases Nat.lt_or_ge (i + 1) s.size with h | h
          · exact h
          · exfalso
            have := HH.out
            rw [rem_end h] at this
            have h2 : hexI (headI []) = -1 := by decide
            omega
        have he : ((i : Int) + 1 == (s.size : Int)) = false := by simp; omega
        have hneg : ¬ hh < 0 := fun q => hbadh (.inl q)
        have h17 : hh ≤ 1 ∨ 7 ≤ hh := by omega
        have HBH := hid hbadh
        have hrl := rem_lt hlt2
        have HRL := hid hrl
        have S5 := hid (fun m => (S4.out.drewN m).set 1 (.int .i64 ((i + 1 : Nat) + 1)))
        have HPK := hid (fun m => peek_any (s := s) (p := p) (i := i + 1 + 1) (S5.out m) (by omega))
        have hbd3 := hexI_bd (headI (rem s (i + 1 + 1)))
        have hbh3 := head_bd s (i + 1 + 1)
        clear hbadh hrl c2 f2
        have b1 : decide (hh < 0) = false := decide_eq_false hneg
        have hcase : (decide (1 < hh) = false ∧ hh ≤ 1) ∨ (decide (1 < hh) = true ∧ decide (hh < 7) = false ∧ 7 ≤ hh) := by
          rcases h17 with h | h
          · exact .inl ⟨decide_eq_false (by omega), h⟩
          · exact .inr ⟨decide_eq_true (by omega), decide_eq_false (by omega), h⟩
        have hge : 0 ≤ hh := by omega
        clear h17 hneg
        rcases hcase with ⟨b2, h17⟩ | ⟨b2, b3, h17⟩
        all_goals
          go_wp2_with fail
          go_quiet (fail)
          go_wp2_with fail
          refine (HPK.out _).mono ?_
          rintro e w6 ⟨rfl, s6⟩
          have HX := hid (hex_any (w := w6) (headI (rem s (i + 1 + 1))) hbh3)
          have d0 : w6.cell? ⟨p, 0, none⟩ = some (.string s) := s6.cell 0
          have d1 : w6.cell? ⟨p, 1, none⟩ = some (.int .i64 ((i + 1 + 1 : Nat) : Int)) := s6.cell 1
          have d2 : w6.cell? ⟨p, 2, none⟩ = some (.bool false) := s6.cell 2
          have g2 := s6.free 2
          have S6 := hid s6
          clear s6 c0 c1 f1 S4 S5 HPK
          go_wp2_with fail
          refine HX.out.mono ?_
          rintro e w7 ⟨rfl, rfl⟩
          clear HX
          obtain ⟨ll, HLL⟩ : ∃ ll, Hid (hexI (headI (rem s (i + 1 + 1))) = ll) := ⟨_, hid rfl⟩
          rw [HLL.out] at hbd3 ⊢
          obtain ⟨hbd31, hbd32⟩ := hbd3
          go_wp2_with fail
          have HSET := hid (fun m => (S6.out.drewN m).set 2 (.bool true))
          have HRL2 : Hid (rem s (i + 1) = ((s[i + 1]).toNat : Int) :: rem s (i + 1 + 1)) := HRL
          have HHX : Hid (hexI ((s[i + 1]).toNat : Int) = hh) := hid (by have := HH.out; rw [HRL.out] at this; exact this)
          by_cases hend2 : i + 1 + 1 = s.size
          · have he2 : ((i : Int) + 1 + 1 == (s.size : Int)) = true := by simp; omega
            have hq : q = none := by rw [HQ2.out, HRL2.out]; exact escX_bad2 (.inl (rem_end (by omega)))
            subst hq
            go_quiet (fail)
            go_wp2_with fail
            go_ret
            exact ⟨i + 1 + 1, rfl, by omega, HSET.out _⟩
          have he2 : ((i : Int) + 1 + 1 == (s.size : Int)) = false := by simp; omega
          by_cases hl0 : ll < 0
          · have b5 : decide (ll < 0) = true := decide_eq_true hl0
            have hq : q = none := by rw [HQ2.out, HRL2.out]; exact escX_bad2 (.inr (.inl (by rw [HLL.out]; exact hl0)))
            subst hq
            go_quiet (fail)
            go_wp2_with fail
            go_ret
            exact ⟨i + 1 + 1, rfl, by omega, HSET.out _⟩
          have b5 : decide (ll < 0) = false := decide_eq_false hl0
          have hor : Go.bits .or .i64 (hh * 16) ll = 16 * hh + ll := by
            have := or_hex ⟨hh.toNat, by omega⟩ ⟨ll.toNat, by omega⟩
            simp only at this
            rwa [Int.toNat_of_nonneg (by omega), Int.toNat_of_nonneg (by omega)] at this
          have hmd : (16 * hh + ll) % 256 = 16 * hh + ll := by omega
          obtain ⟨ob, hob⟩ : ∃ ob, oddB (16 * hh + ll) = ob := ⟨_, rfl⟩
          have HOD : Hid (∀ wx, Calls Tryd.prog 73 #[.int .u8 (16 * hh + ll)] wx fun e w' => e = .returned (.bool ob) ∧ w' = wx) := hid fun wx => by
            have := odd_any (16 * hh + ll) wx
            rw [hob] at this
            exact this.mono fun e w' ⟨he, hw⟩ => ⟨he, hw.symm⟩
          have HOB := hid hob
          have hlt3 : i + 1 + 1 < s.size := by omega
          clear hob
          cases ob with
          | false =>
            have hq : q = none := by rw [HQ2.out, HRL2.out]; exact escX_bad2 (.inr (.inr (by rw [HHX.out, HLL.out]; exact HOB.out)))
            subst hq
            go_quiet ((go_at_call 73; exact Calls.quiet_of_same (HOD.out _)))
            go_wp2_with fail
            go_ret
            exact ⟨i + 1 + 1, rfl, by omega, HSET.out _⟩
          | true =>
            have hq : q = some (16 * hh + ll, rem s (i + 1 + 1 + 1)) := by
              have hl2 := HLL.out
              rw [rem_lt hlt3] at hl2
              rw [HQ2.out, HRL2.out, rem_lt hlt3]
              have h1 := escX_ok (a := ((s[i + 1]).toNat : Int)) (b := ((s[i + 1 + 1]).toNat : Int)) (r := rem s (i + 1 + 1 + 1)) (by rw [HHX.out]; exact HBH.out) (by rw [show hexI ((s[i + 1 + 1]).toNat : Int) = ll from hl2]; exact hl0) (by rw [HHX.out, show hexI ((s[i + 1 + 1]).toNat : Int) = ll from hl2]; exact HOB.out)
              rw [HHX.out, show hexI ((s[i + 1 + 1]).toNat : Int) = ll from hl2] at h1
              exact h1
            subst hq
            go_quiet ((go_at_call 73; exact Calls.quiet_of_same (HOD.out _)))
            go_wp2_with fail
            go_ret
            exact ⟨i + 1 + 1, rfl, hlt3, rfl, S6.out.drewN _⟩
end
end Go.Proofs.YteaabbghnfideaaDoor
