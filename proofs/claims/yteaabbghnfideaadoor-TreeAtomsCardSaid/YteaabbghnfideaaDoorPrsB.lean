/-
  tree.Parse: int, number, binary: the walks.
-/
import Derived.Test.YteaabbghnfideaaDoorPrsA
import Derived.Test.YteaabbghnfideaaDoorParB
import Derived.Deep.RegionLaw
import Derived.Deep.DeepCutAuto
import Derived.Deep.CutBlock
namespace Go.Proofs.YteaabbghnfideaaDoor
open Go.RowKit
set_option maxHeartbeats 4000000
set_option maxRecDepth 100000

/-- a term that is being read: a block of its own -/
def TB (tb : Nat) (k n : Int) (nm : ByteArray) (ba : Option Addr) (bn bc : Nat) : HP := blk tb (.cells #[.int .i64 k, .int .i64 n, .string nm, .slice none 0 0, .slice none 0 0, .slice ba bn bc] 25 (0, 0))
theorem wrap_min : wrap64 (-wrap64 9223372036854775808) = -9223372036854775808 := by decide +kernel
section
variable {W w : World} {L : List HP} {p i tb : Nat} {s nm : ByteArray} {k0 n0 : Int}
def IntP (W : World) (L : List HP) (p tb : Nat) (s nm : ByteArray) (k0 : Int) (q : Option (Int × List Int)) (e : Ending) (w' : World) : Prop := match q with
  | some (n, r) => ∃ j, e = .returned (.tuple #[]) ∧ r = rem s j ∧ j ≤ s.size ∧ Sat W w' (PB p s j false :: TB tb k0 n nm none 0 0 :: L)
  | none => ∃ j n, e = .returned (.tuple #[]) ∧ j ≤ s.size ∧ Sat W w' (PB p s j true :: TB tb k0 n nm none 0 0 :: L)
theorem int_any (S : Sat W w (PB p s i false :: TB tb k0 n0 nm none 0 0 :: L)) (hi : i ≤ s.size) (hs : s.size ≤ 140737488351232) :
    Calls Tryd.prog 82 #[.pointer (some ⟨p, 0, none⟩), .pointer (some ⟨tb, 0, none⟩)] w (IntP W L p tb s nm k0 (intF (rem s i))) := by
  obtain ⟨q, HQ⟩ : ∃ q, Hid (intF (rem s i) = q) := ⟨_, hid rfl⟩
  rw [HQ.out]
  cases ht : tk 45 (rem s i) with
  | none =>
    have hq : q = digitsF 9223372036854775807 (rem s i) := by rw [← HQ.out]; unfold intF; rw [ht]
    have HT := hid (take_no S 45 hi ht)
    have HQ2 := hid hq
    clear S ht hq HQ
    go_enter Tryd.func82, Tryd.ntmps82
    go_wp2_with fail
    refine HT.out.mono ?_
    rintro e w1 ⟨rfl, s1⟩
    have HD := hid (digits_any s1 9223372036854775807 hi hs (by decide))
    rw [← HQ2.out] at HD
    clear HT s1
    go_wp2_with fail
    refine HD.out.mono ?_
    rintro e w2 hd
    cases q with
    | none =>
      obtain ⟨rfl, s2⟩ := hd
      have f1 := s2.swap.free 1
      have c1 : w2.cell? ⟨tb, 1, none⟩ = some (.int .i64 n0) := s2.swap.cell 1
      have S3 := hid (s2.swap.set 1 (.int .i64 0)).swap
      clear s2 HD
      go_wp2_with fail
      go_end0
      exact ⟨i, 0, rfl, hi, S3.out⟩
    | some nr =>
      obtain ⟨n, r⟩ := nr
      obtain ⟨j, rfl, rfl, hj, s2⟩ := hd
      obtain ⟨hn0, hn1, _⟩ := digitsF_back (by decide) HQ2.out.symm
      have f1 := s2.swap.free 1
      have c1 : w2.cell? ⟨tb, 1, none⟩ = some (.int .i64 n0) := s2.swap.cell 1
      have S3 := hid (s2.swap.set 1 (.int .i64 n)).swap
      clear s2 HD
      go_wp2_with fail
      go_end0
      exact ⟨j, rfl, rfl, hj, S3.out⟩
  | some r1 =>
    obtain ⟨hlt, _, hr1⟩ := tk_some ht
    subst hr1
    have hq : q = if headI (rem s (i + 1)) = 48 then none else match digitsF 9223372036854775808 (rem s (i + 1)) with | some (n, r2) => some (-n, r2) | none => none := by rw [← HQ.out]; unfold intF; rw [ht]; rfl
    have HT := hid (take_yes S 45 hs ht)
    have HQ2 := hid hq
    clear S ht hq HQ
    by_cases h48 : headI (rem s (i + 1)) = 48
    · have hq : q = none := by rw [HQ2.out, if_pos h48]
      subst hq
      have h48b : (headI (rem s (i + 1)) == 48) = true := by simpa using h48
      have H48 := hid h48
      clear h48
      go_enter Tryd.func82, Tryd.ntmps82
      go_wp2_with fail
      refine HT.out.mono ?_
      rintro e w1 ⟨rfl, s1⟩
      have HP := hid (peek_any s1 (by omega))
      clear HT s1
      go_wp2_with fail
      refine HP.out.mono ?_
      rintro e w2 ⟨rfl, s2⟩
      have f2 := s2.free 2
      have c2 : w2.cell? ⟨p, 2, none⟩ = some (.bool false) := s2.cell 2
      have S3 := hid (s2.set 2 (.bool true))
      clear s2 HP
      go_wp2_with fail
      go_end0
      exact ⟨i + 1, n0, rfl, by omega, S3.out⟩
    · have h48b : (headI (rem s (i + 1)) == 48) = false := by simpa using h48
      have hq : q = match digitsF 9223372036854775808 (rem s (i + 1)) with | some (n, r2) => some (-n, r2) | none => none := by rw [HQ2.out, if_neg h48]
      have HQ3 := hid hq
      clear hq h48
      obtain ⟨d, hd0⟩ : ∃ d, digitsF 9223372036854775808 (rem s (i + 1)) = d := ⟨_, rfl⟩
      have HD0 := hid hd0
      clear hd0
      rw [HD0.out] at HQ3
      go_enter Tryd.func82, Tryd.ntmps82
      go_wp2_with fail
      refine HT.out.mono ?_
      rintro e w1 ⟨rfl, s1⟩
      have HP := hid (peek_any s1 (by omega))
      clear HT s1
      go_wp2_with fail
      refine HP.out.mono ?_
      rintro e w2 ⟨rfl, s2⟩
      have HD := hid (digits_any s2 9223372036854775808 (by omega) hs (by decide))
      rw [HD0.out] at HD
      clear s2 HP
      go_wp2_with fail
      refine HD.out.mono ?_
      rintro e w3 hd
      cases d with
      | none =>
        have hq : q = none := HQ3.out
        subst hq
        obtain ⟨rfl, s3⟩ := hd
        have f1 := s3.swap.free 1
        have c1 : w3.cell? ⟨tb, 1, none⟩ = some (.int .i64 n0) := s3.swap.cell 1
        have S3 := hid (s3.swap.set 1 (.int .i64 0)).swap
        clear s3 HD
        go_wp2_with fail
        go_end0
        exact ⟨i + 1, 0, rfl, by omega, S3.out⟩
      | some nr =>
        obtain ⟨n, r⟩ := nr
        have hq : q = some (-n, r) := HQ3.out
        subst hq
        obtain ⟨j, rfl, rfl, hj, s3⟩ := hd
        obtain ⟨hn0, hn1, _⟩ := digitsF_back (by decide) HD0.out
        have f1 := s3.swap.free 1
        have c1 : w3.cell? ⟨tb, 1, none⟩ = some (.int .i64 n0) := s3.swap.cell 1
        have S3 := hid (s3.swap.set 1 (.int .i64 (-n))).swap
        clear s3 HD
        by_cases hmax : n ≤ 9223372036854775807
        · go_wp2_with fail
          go_end0
          exact ⟨j, rfl, rfl, hj, S3.out⟩
        · obtain rfl : n = 9223372036854775808 := by omega
          go_wp2_with fail
          go_end0
          exact ⟨j, rfl, rfl, hj, by rw [wrap_min]; exact S3.out⟩
def RefP (W : World) (L : List HP) (p tb : Nat) (s nm : ByteArray) (q : Option (T × List Int)) (e : Ending) (w' : World) : Prop := match q with
  | some (t, r) => ∃ j, e = .returned (.tuple #[]) ∧ r = rem s j ∧ j ≤ s.size ∧ Sat W w' (PB p s j false :: TB tb t.k t.n nm none 0 0 :: L)
  | none => ∃ j k n, e = .returned (.tuple #[]) ∧ j ≤ s.size ∧ Sat W w' (PB p s j true :: TB tb k n nm none 0 0 :: L)
theorem number_any (S : Sat W w (PB p s i false :: TB tb k0 n0 nm none 0 0 :: L)) (hi : i ≤ s.size) (hs : s.size ≤ 140737488351232) :
    Calls Tryd.prog 80 #[.pointer (some ⟨p, 0, none⟩), .pointer (some ⟨tb, 0, none⟩)] w (RefP W L p tb s nm (refF (rem s i))) := by
  obtain ⟨q, HQ⟩ : ∃ q, Hid (refF (rem s i) = q) := ⟨_, hid rfl⟩
  rw [HQ.out]
  cases ht : tk 114 (rem s i) with
  | some r1 =>
    obtain ⟨hlt, hc, hr1⟩ := tk_some ht
    subst hr1
    have hq : q = match digitsF 1152921504606846975 (rem s (i + 1)) with | some (n, r2) => some (mkT 3 n ByteArray.empty [], r2) | none => none := by
      rw [← HQ.out, rem_lt hlt, refF, if_pos (by rw [hc]; decide), hc]
      rfl
    obtain ⟨d, hd0⟩ : ∃ d, digitsF 1152921504606846975 (rem s (i + 1)) = d := ⟨_, rfl⟩
    have HD0 := hid hd0
    have HQ2 := hid hq
    rw [HD0.out] at HQ2
    have HT := hid (take_yes S 114 hs ht)
    clear S ht hd0 hq hc
    go_enter Tryd.func80, Tryd.ntmps80
    go_wp2_with fail
    refine HT.out.mono ?_
    rintro e w1 ⟨rfl, s1⟩
    have hsx := s1
    have f0 := s1.swap.free 0
    have c0 : w1.cell? ⟨tb, 0, none⟩ = some (.int .i64 k0) := s1.swap.cell 0
    have HD := hid (digits_any (s1.swap.set 0 (.int .i64 3)).swap 1152921504606846975 (by omega) hs (by decide))
    rw [HD0.out] at HD
    clear s1 hsx
    go_wp2_with fail
    refine HD.out.mono ?_
    rintro e w3 hd
    cases d with
    | none =>
      have hq : q = none := HQ2.out
      subst hq
      obtain ⟨rfl, s3⟩ := hd
      have f1 := s3.swap.free 1
      have c1 : w3.cell? ⟨tb, 1, none⟩ = some (.int .i64 n0) := s3.swap.cell 1
      have S3 := hid (s3.swap.set 1 (.int .i64 0)).swap
      clear s3 HD
      go_wp2_with fail
      go_end0
      exact ⟨i + 1, 3, 0, rfl, by omega, S3.out⟩
    | some nr =>
      obtain ⟨n, r⟩ := nr
      have hq : q = some (mkT 3 n ByteArray.empty [], r) := HQ2.out
      subst hq
      obtain ⟨j, rfl, rfl, hj, s3⟩ := hd
      obtain ⟨hn0, hn1, _⟩ := digitsF_back (by decide) HD0.out
      have f1 := s3.swap.free 1
      have c1 : w3.cell? ⟨tb, 1, none⟩ = some (.int .i64 n0) := s3.swap.cell 1
      have S3 := hid (s3.swap.set 1 (.int .i64 n)).swap
      clear s3 HD
      go_wp2_with fail
      go_end0
      exact ⟨j, rfl, rfl, hj, S3.out⟩
  | none =>
    have HT := hid (take_no S 114 hi ht)
    cases ht2 : tk 112 (rem s i) with
    | some r1 =>
      obtain ⟨hlt, hc, hr1⟩ := tk_some ht2
      subst hr1
      have hq : q = match digitsF 1152921504606846975 (rem s (i + 1)) with | some (n, r2) => some (mkT 4 n ByteArray.empty [], r2) | none => none := by
        rw [← HQ.out, rem_lt hlt, refF, if_pos (by rw [hc]; decide), hc]
        rfl
      obtain ⟨d, hd0⟩ : ∃ d, digitsF 1152921504606846975 (rem s (i + 1)) = d := ⟨_, rfl⟩
      have HD0 := hid hd0
      have HQ2 := hid hq
      rw [HD0.out] at HQ2
      have HTT := hid ht2
      clear S ht ht2 hd0 hq hc
      go_enter Tryd.func80, Tryd.ntmps80
      go_wp2_with fail
      refine HT.out.mono ?_
      rintro e w0 ⟨rfl, s0⟩
      have HT4 := hid (take_yes s0 112 hs HTT.out)
      clear HT s0
      go_wp2_with fail
      refine HT4.out.mono ?_
      rintro e w1 ⟨rfl, s1⟩
      have hsx := s1
      have f0 := s1.swap.free 0
      have c0 : w1.cell? ⟨tb, 0, none⟩ = some (.int .i64 k0) := s1.swap.cell 0
      have HD := hid (digits_any (s1.swap.set 0 (.int .i64 4)).swap 1152921504606846975 (by omega) hs (by decide))
      rw [HD0.out] at HD
      clear s1 hsx
      go_wp2_with fail
      refine HD.out.mono ?_
      rintro e w3 hd
      cases d with
      | none =>
        have hq : q = none := HQ2.out
        subst hq
        obtain ⟨rfl, s3⟩ := hd
        have f1 := s3.swap.free 1
        have c1 : w3.cell? ⟨tb, 1, none⟩ = some (.int .i64 n0) := s3.swap.cell 1
        have S3 := hid (s3.swap.set 1 (.int .i64 0)).swap
        clear s3 HD
        go_wp2_with fail
        go_end0
        exact ⟨i + 1, 4, 0, rfl, by omega, S3.out⟩
      | some nr =>
        obtain ⟨n, r⟩ := nr
        have hq : q = some (mkT 4 n ByteArray.empty [], r) := HQ2.out
        subst hq
        obtain ⟨j, rfl, rfl, hj, s3⟩ := hd
        obtain ⟨hn0, hn1, _⟩ := digitsF_back (by decide) HD0.out
        have f1 := s3.swap.free 1
        have c1 : w3.cell? ⟨tb, 1, none⟩ = some (.int .i64 n0) := s3.swap.cell 1
        have S3 := hid (s3.swap.set 1 (.int .i64 n)).swap
        clear s3 HD
        go_wp2_with fail
        go_end0
        exact ⟨j, rfl, rfl, hj, S3.out⟩
    | none =>
      have hq : q = none := by
        rw [← HQ.out]
        rcases Nat.lt_or_ge i s.size with hlt | hge
        · rw [rem_lt hlt, refF, if_neg]
          rintro (x | x)
          · exact tk_none hlt ht x
          · exact tk_none hlt ht2 x
        · rw [rem_end hge]; rfl
      subst hq
      have HT2 := hid ht2
      clear S ht ht2
      go_enter Tryd.func80, Tryd.ntmps80
      go_wp2_with fail
      refine HT.out.mono ?_
      rintro e w1 ⟨rfl, s1⟩
      have HT3 := hid (take_no s1 112 hi HT2.out)
      clear HT s1
      go_wp2_with fail
      refine HT3.out.mono ?_
      rintro e w2 ⟨rfl, s2⟩
      have f2 := s2.free 2
      have c2 : w2.cell? ⟨p, 2, none⟩ = some (.bool false) := s2.cell 2
      have S3 := hid (s2.set 2 (.bool true))
      clear s2 HT3
      go_wp2_with fail
      go_end0
      exact ⟨i, k0, n0, rfl, hi, S3.out⟩
end
end Go.Proofs.YteaabbghnfideaaDoor
