/-
  tree.Parse: binary: the walk.
-/
import Derived.Test.YteaabbghnfideaaDoorPrsB
namespace Go.Proofs.YteaabbghnfideaaDoor
open Go.RowKit
set_option maxHeartbeats 4000000
set_option maxRecDepth 100000

theorem binL_bad {out r : List Int} (h : digitsF 255 r = none) : binL out r = none := by
  rw [binL]; split
  · rfl
  · rename_i e; rw [h] at e; cases e
def binK (out : List Int) (b : Int) (r1 : List Int) : Option (List Int × List Int) := match tk 44 r1 with
    | some r2 => binL (out ++ [b]) r2
    | none => match tk 62 r1 with
      | none => none
      | some r2 => match tk 62 r2 with
        | none => none
        | some r3 => some (out ++ [b], r3)
theorem binL_go {out r r1 : List Int} {b : Int} (h : digitsF 255 r = some (b, r1)) : binL out r = binK out b r1 := by
  unfold binK
  rw [binL]; split
  · rename_i e; rw [h] at e; cases e
  · rename_i b' r1' e
    rw [h] at e
    simp only [Option.some.injEq, Prod.mk.injEq] at e
    obtain ⟨rfl, rfl⟩ := e
    split
    · rename_i e2; rw [e2]
    · rename_i e2; rw [e2]; rfl
theorem binK_more {out r1 r2 : List Int} {b : Int} (h : tk 44 r1 = some r2) : binK out b r1 = binL (out ++ [b]) r2 := by unfold binK; rw [h]
theorem binK_no {out r1 : List Int} {b : Int} (h : tk 44 r1 = none) (h2 : tk 62 r1 = none) : binK out b r1 = none := by unfold binK; rw [h]; simp only; rw [h2]
theorem binK_no2 {out r1 r2 : List Int} {b : Int} (h : tk 44 r1 = none) (h2 : tk 62 r1 = some r2) (h3 : tk 62 r2 = none) : binK out b r1 = none := by unfold binK; rw [h]; simp only; rw [h2]; simp only; rw [h3]
theorem binK_end {out r1 r2 r3 : List Int} {b : Int} (h : tk 44 r1 = none) (h2 : tk 62 r1 = some r2) (h3 : tk 62 r2 = some r3) : binK out b r1 = some (out ++ [b], r3) := by unfold binK; rw [h]; simp only; rw [h2]; simp only; rw [h3]
theorem u8s_snoc (l : List Int) (b : Int) : u8s (l ++ [b]) = u8s l ++ [.int .u8 b] := by simp [u8s]
theorem rem_len (s : ByteArray) (i : Nat) : (rem s i).length = s.size - i := by unfold rem; rw [List.length_drop, byts_len]
section
variable {W w : World} {L : List HP} {p i tb : Nat} {s nm : ByteArray} {kk n0 : Int}
def BinP (W : World) (L : List HP) (p tb : Nat) (s nm : ByteArray) (kk n0 : Int) (q : Option (List Int × List Int)) (e : Ending) (w' : World) : Prop := match q with
  | some (bs, r) => ∃ j a n c, e = .returned (.tuple #[]) ∧ r = rem s j ∧ j ≤ s.size ∧ Sat W w' (PB p s j false :: TB tb kk n0 nm a n c :: row 5 1 a n c (u8s bs) :: L)
  | none => ∃ j a n c, e = .returned (.tuple #[]) ∧ j ≤ s.size ∧ Sat W w' (PB p s j true :: TB tb kk n0 nm a n c :: L)
theorem binary_any (S : Sat W w (PB p s i false :: TB tb kk n0 nm none 0 0 :: L)) (hi : i ≤ s.size) (hs : s.size ≤ 4294967296) :
    Calls Tryd.prog 79 #[.pointer (some ⟨p, 0, none⟩), .pointer (some ⟨tb, 0, none⟩)] w (BinP W L p tb s nm kk n0 (binF (rem s i))) := by
  have hs2 : s.size ≤ 140737488351232 := by omega
  obtain ⟨q, HQ⟩ : ∃ q, Hid (binF (rem s i) = q) := ⟨_, hid rfl⟩
  rw [HQ.out]
  cases ht : tk 60 (rem s i) with
  | none =>
    have hq : q = none := by rw [← HQ.out]; unfold binF; rw [ht]
    subst hq
    have HT := hid (must_no S 60 hi ht)
    clear S ht
    go_enter Tryd.func79, Tryd.ntmps79
    go_wp2_with fail
    refine HT.out.mono ?_
    rintro e w1 ⟨rfl, s1⟩
    have HT2 := hid (take_bad s1 62)
    clear HT s1
    go_wp2_with fail
    refine HT2.out.mono ?_
    rintro e w2 ⟨rfl, s2⟩
    have S2 := hid s2
    clear HT2 s2
    go_wp2_with fail
    go_loopw [] (fun wr => Hid (Sat W wr (PB p s i true :: TB tb kk n0 nm none 0 0 :: L))) (fun wr => 0)
    case atStart => exact S2
    case round =>
      have c2 : wr.cell? ⟨p, 2, none⟩ = some (.bool true) := hrel.out.cell 2
      go_wp2_with fail
      go_end0
      exact ⟨i, _, _, _, rfl, hi, hrel.out⟩
  | some r1 =>
    obtain ⟨hlt, _, hr1⟩ := tk_some ht
    subst hr1
    have HT := hid (must_yes S 60 hs2 ht)
    cases ht2 : tk 62 (rem s (i + 1)) with
    | some r2 =>
      obtain ⟨hlt2, _, hr2⟩ := tk_some ht2
      subst hr2
      have hq : q = match tk 62 (rem s (i + 1 + 1)) with | some r3 => some ([], r3) | none => none := by rw [← HQ.out]; unfold binF; rw [ht]; simp only; rw [ht2]; rfl
      have HQ2 := hid hq
      have HTT := hid ht2
      clear S ht ht2 hq HQ
      go_enter Tryd.func79, Tryd.ntmps79
      go_wp2_with fail
      refine HT.out.mono ?_
      rintro e w1 ⟨rfl, s1⟩
      have HT2 := hid (take_yes s1 62 hs2 HTT.out)
      clear HT s1
      go_wp2_with fail
      refine HT2.out.mono ?_
      rintro e w2 ⟨rfl, s2⟩
      cases ht3 : tk 62 (rem s (i + 1 + 1)) with
      | none =>
        have hq : q = none := by rw [HQ2.out, ht3]
        subst hq
        have HT3 := hid (must_no s2 62 (by omega) ht3)
        clear HT2 s2 ht3
        go_wp2_with fail
        refine HT3.out.mono ?_
        rintro e w3 ⟨rfl, s3⟩
        have S3 := hid s3
        clear s3 HT3
        go_wp2_with fail
        go_end0
        exact ⟨i + 1 + 1, _, _, _, rfl, by omega, S3.out⟩
      | some r3 =>
        obtain ⟨hlt3, _, hr3⟩ := tk_some ht3
        subst hr3
        have hq : q = some ([], rem s (i + 1 + 1 + 1)) := by rw [HQ2.out, ht3]
        subst hq
        have HT3 := hid (must_yes s2 62 hs2 ht3)
        clear HT2 s2 ht3
        go_wp2_with fail
        refine HT3.out.mono ?_
        rintro e w3 ⟨rfl, s3⟩
        have S3 := hid s3
        clear s3 HT3
        go_wp2_with fail
        go_end0
        exact ⟨i + 1 + 1 + 1, none, 0, 0, rfl, rfl, by omega, (S3.out.rowNil (e := 5) (size := 1)).rot3.rot3⟩
    | none =>
      have hq : q = binL [] (rem s (i + 1)) := by rw [← HQ.out]; unfold binF; rw [ht]; simp only; rw [ht2]
      have HQ2 := hid hq
      have HTT := hid ht2
      clear S ht ht2 hq HQ
      go_enter Tryd.func79, Tryd.ntmps79
      go_wp2_with fail
      refine HT.out.mono ?_
      rintro e w1 ⟨rfl, s1⟩
      have HT2 := hid (take_no s1 62 (by omega) HTT.out)
      clear HT s1
      go_wp2_with fail
      refine HT2.out.mono ?_
      rintro e w2 ⟨rfl, s2⟩
      have S2 : Hid (Sat W w2 (PB p s (i + 1) false :: TB tb kk n0 nm none 0 0 :: row 5 1 none 0 0 (u8s []) :: L)) := hid ((s2.rowNil (e := 5) (size := 1)).rot3.rot3)
      clear HT2 s2
      go_wp2_with fail
      go_loopg [] (s.size + 2) (fun left wr => ∃ (k0 j : Nat) (bad : Bool) (a : Option Addr) (n c : Nat) (out : List Int), k0 = left ∧ j ≤ s.size ∧ out.length ≤ j + 1 ∧ (bad = false → out.length ≤ j ∧ s.size + 1 < left + j) ∧ 0 < left ∧ Hid (bad = false → q = binL out (rem s j)) ∧ Hid (bad = true → q = none) ∧ Hid (n = out.length) ∧ Hid (Sat W wr (PB p s j bad :: TB tb kk n0 nm a n c :: row 5 1 a n c (u8s out) :: L)))
      case atStart => exact ⟨_, i + 1, false, none, 0, 0, [], rfl, by omega, by simp, fun _ => ⟨by simp, by omega⟩, by omega, hid (fun _ => HQ2.out), hid (fun h => by cases h), hid rfl, S2⟩
      case round =>
        obtain ⟨k0, j, bad, a, n, c, out, rfl, hj, ho1, ho2, hl0, HR, HRB, HN, S⟩ := hrel
        clear S2
        have c2 : wr.cell? ⟨p, 2, none⟩ = some (.bool bad) := S.out.cell 2
        cases bad with
        | true =>
          have hq := HRB.out rfl
          subst hq
          go_wp2_with fail
          go_end0
          exact ⟨j, _, _, _, rfl, hj, (S.out.rot3).drop⟩
        | false =>
          obtain ⟨ho3, hl1⟩ := ho2 rfl
          have hr := HR.out rfl
          obtain ⟨d, hd0⟩ : ∃ d, digitsF 255 (rem s j) = d := ⟨_, rfl⟩
          have HD0 := hid hd0
          have HRR := hid hr
          clear hr HR HRB ho2
          have HC : Hid (∀ wx, Sat W wx (PB p s j false :: TB tb kk n0 nm a n c :: row 5 1 a n c (u8s out) :: L) → Calls Tryd.prog 90 #[.pointer (some ⟨p, 0, none⟩), .int .u64 255] wx (DigP W (TB tb kk n0 nm a n c :: row 5 1 a n c (u8s out) :: L) p s j d)) := hid fun wx SX => by
            have := digits_any SX 255 hj hs2 (by decide)
            rwa [hd0] at this
          have k5 : wr.cell? ⟨tb, 5, none⟩ = some (.slice a n c) := S.out.swap.cell 5
          have SS := S
          have hn := HN.out
          have hnb : n ≤ 4294967296 := by omega
          clear hd0 hn
          cases d with
          | none =>
            have hw0 : IntKind.u8.wrap 0 = 0 := by decide
            have hq : q = none := by rw [HRR.out, binL_bad HD0.out]
            subst hq
            go_upto_region 4 with fail
            go_cut [] from 15 to 26 (fun wd => ∃  a' c', Hid (Sat W wd (PB p s j true :: TB tb kk n0 nm a' (n + 1) c' :: row 5 1 a' (n + 1) c' (u8s (out ++ [0])) :: L)))
            case first =>
              go_region_law (first
                | (go_simp
                   go_at_call 90
                   with_reducible refine (HC.out _ SS.out.drew).mono ?_
                   rintro e w4 hd
                   obtain ⟨rfl, s4⟩ := hd
                   have S3 := hid s4
                   have d5 : w4.cell? ⟨tb, 5, none⟩ = some (.slice a n c) := s4.swap.cell 5
                   have dlt := s4.swap.lt
                   have S4 : Hid (Sat W w4 (row 5 1 a n c (u8s out) :: PB p s j true :: TB tb kk n0 nm a n c :: L)) := hid s4.rot3
                   clear s4 S)
                | (refine step_push_row rfl _ _ rfl elem8 rfl S4.out (.int .u8 0) rfl (by simp) rfl (by unfold maxLen; omega) (by omega) ?_
                   intro a' c' w5 s5 ha' hz
                   have S5 : Hid (Sat W w5 (TB tb kk n0 nm a n c :: row 5 1 a' (n + 1) c' (u8s out ++ [.int .u8 0]) :: PB p s j true :: L)) := hid s5.rot3
                   have e5 : w5.cell? ⟨tb, 5, none⟩ = some (.slice a n c) := S5.out.cell 5
                   have f5 := S5.out.free 5
                   clear s5 S4 S3))
              all_goals have s6 := S5.out.set 5 (.slice a' (n + 1) c')
              all_goals have S6 : Hid (Sat W _ (PB p s j true :: TB tb kk n0 nm a' (n + 1) c' :: row 5 1 a' (n + 1) c' (u8s (out ++ [0])) :: L)) := hid (by rw [u8s_snoc]; exact s6.rot3)
              all_goals clear s6 S5 e5 f5 SS
              all_goals go_wp2_with fail
              all_goals go_meet
              all_goals exact ⟨_, _, S6⟩
            case rest =>
              obtain ⟨a', c', S6⟩ := hcut
              clear S SS k5 c2 HC
              obtain ⟨k, rfl⟩ : ∃ k, k0 = k + 1 := ⟨k0 - 1, by omega⟩
              have d2 : World.cell? _ ⟨p, 2, none⟩ = some (.bool true) := S6.out.cell 2
              go_wp2_with fail
              go_roundg k
              all_goals first
                | omega
                | exact ⟨k, j, true, a', n + 1, c', out ++ [0], rfl, hj, by simp; omega, (fun h => by cases h), by omega, hid (fun h => by cases h), hid (fun _ => by trivial), hid (by rw [HN.out]; simp), S6⟩
          | some br =>
            obtain ⟨b, r1⟩ := br
            obtain ⟨hb0, hb1, _⟩ := digitsF_back (by decide) HD0.out
            have hwb : IntKind.u8.wrap b = b := IntWalk.u8_in _ (by omega)
            have hlt1 := digitsF_lt (by decide) HD0.out
            rw [rem_len] at hlt1
            have HLT := hid hlt1
            have hq : q = binK out b r1 := HRR.out.trans (binL_go HD0.out)
            have HQ3 := hid hq
            clear hq hlt1 HRR
            go_upto_region 4 with fail
            go_cut [] from 15 to 26 (fun wd => ∃ j1 a' c', Hid (r1 = rem s j1) ∧ j1 ≤ s.size ∧ Hid (Sat W wd (PB p s j1 false :: TB tb kk n0 nm a' (n + 1) c' :: row 5 1 a' (n + 1) c' (u8s (out ++ [b])) :: L)))
            case first =>
              go_region_law (first
                | (go_simp
                   go_at_call 90
                   with_reducible refine (HC.out _ SS.out.drew).mono ?_
                   rintro e w4 hd
                   obtain ⟨j1, rfl, hr1, hj1, s4⟩ := hd
                   have HJ1 := hid hr1
                   have S3 := hid s4
                   have d5 : w4.cell? ⟨tb, 5, none⟩ = some (.slice a n c) := s4.swap.cell 5
                   have dlt := s4.swap.lt
                   have S4 : Hid (Sat W w4 (row 5 1 a n c (u8s out) :: PB p s j1 false :: TB tb kk n0 nm a n c :: L)) := hid s4.rot3
                   clear s4 hr1 S)
                | (refine step_push_row rfl _ _ rfl elem8 rfl S4.out (.int .u8 b) rfl (by simp) rfl (by unfold maxLen; omega) (by omega) ?_
                   intro a' c' w5 s5 ha' hz
                   have S5 : Hid (Sat W w5 (TB tb kk n0 nm a n c :: row 5 1 a' (n + 1) c' (u8s out ++ [.int .u8 b]) :: PB p s j1 false :: L)) := hid s5.rot3
                   have e5 : w5.cell? ⟨tb, 5, none⟩ = some (.slice a n c) := S5.out.cell 5
                   have f5 := S5.out.free 5
                   clear s5 S4 S3))
              all_goals have s6 := S5.out.set 5 (.slice a' (n + 1) c')
              all_goals have S6 : Hid (Sat W _ (PB p s j1 false :: TB tb kk n0 nm a' (n + 1) c' :: row 5 1 a' (n + 1) c' (u8s (out ++ [b])) :: L)) := hid (by rw [u8s_snoc]; exact s6.rot3)
              all_goals clear s6 S5 e5 f5 SS
              all_goals go_wp2_with fail
              all_goals go_meet
              all_goals exact ⟨j1, _, _, HJ1, hj1, S6⟩
            case rest =>
              obtain ⟨j1, a', c', HJ1, hj1, S6⟩ := hcut
              clear S SS k5 c2 HC
              have d2 : World.cell? _ ⟨p, 2, none⟩ = some (.bool false) := S6.out.cell 2
              obtain ⟨k, rfl⟩ : ∃ k, k0 = k + 1 := ⟨k0 - 1, by omega⟩
              have hj1l : j < j1 := by
                have h9 := HLT.out
                rw [HJ1.out, rem_len] at h9
                omega
              have HQ4 : Hid (q = binK out b (rem s j1)) := hid (by have := HQ3.out; rw [HJ1.out] at this; exact this)
              clear HQ3 HLT
              cases ht5 : tk 44 (rem s j1) with
              | some r2 =>
                obtain ⟨hlt5, _, hr5⟩ := tk_some ht5
                subst hr5
                have hq : q = binL (out ++ [b]) (rem s (j1 + 1)) := by rw [HQ4.out, binK_more ht5]
                have HQ5 := hid hq
                have HT5 := hid (take_yes S6.out 44 hs2 ht5)
                clear ht5 hq HQ4 S6
                go_wp2_with fail
                refine HT5.out.mono ?_
                rintro e w7 ⟨rfl, s7⟩
                have S7 := hid s7
                clear s7 HT5
                go_wp2_with fail
                go_roundg k
                all_goals first
                  | omega
                  | exact ⟨k, j1 + 1, false, a', n + 1, c', out ++ [b], rfl, by omega, by simp; omega, (fun _ => ⟨by simp; omega, by omega⟩), by omega, hid (fun _ => HQ5.out), hid (fun h => by cases h), hid (by rw [HN.out]; simp), S7⟩
              | none =>
                have HT5 := hid (take_no S6.out 44 hj1 ht5)
                have H44 := hid ht5
                clear ht5 S6
                go_wp2_with fail
                refine HT5.out.mono ?_
                rintro e w7 ⟨rfl, s7⟩
                cases ht6 : tk 62 (rem s j1) with
                | none =>
                  have hq : q = none := by rw [HQ4.out, binK_no H44.out ht6]
                  subst hq
                  have HT6 := hid (must_no s7 62 hj1 ht6)
                  clear s7 HT5 ht6 HQ4 H44
                  go_wp2_with fail
                  refine HT6.out.mono ?_
                  rintro e w8 ⟨rfl, s8⟩
                  have d8 : w8.cell? ⟨p, 2, none⟩ = some (.bool true) := s8.cell 2
                  have S8 := hid s8
                  clear s8 HT6
                  go_wp2_with fail
                  go_end0
                  exact ⟨j1, _, _, _, rfl, hj1, S8.out.rot3.drop⟩
                | some r2 =>
                  obtain ⟨hlt6, _, hr6⟩ := tk_some ht6
                  subst hr6
                  have HT6 := hid (must_yes s7 62 hs2 ht6)
                  have H62 := hid ht6
                  clear s7 HT5 ht6
                  go_wp2_with fail
                  refine HT6.out.mono ?_
                  rintro e w8 ⟨rfl, s8⟩
                  have d8 : w8.cell? ⟨p, 2, none⟩ = some (.bool false) := s8.cell 2
                  cases ht7 : tk 62 (rem s (j1 + 1)) with
                  | none =>
                    have hq : q = none := by rw [HQ4.out, binK_no2 H44.out H62.out ht7]
                    subst hq
                    have HT7 := hid (must_no s8 62 (by omega) ht7)
                    clear s8 HT6 ht7 HQ4 H44 H62
                    go_wp2_with fail
                    refine HT7.out.mono ?_
                    rintro e w9 ⟨rfl, s9⟩
                    have S9 := hid s9
                    clear s9 HT7
                    go_wp2_with fail
                    go_end0
                    exact ⟨j1 + 1, _, _, _, rfl, by omega, S9.out.rot3.drop⟩
                  | some r3 =>
                    obtain ⟨hlt7, _, hr7⟩ := tk_some ht7
                    subst hr7
                    have hq : q = some (out ++ [b], rem s (j1 + 1 + 1)) := by rw [HQ4.out, binK_end H44.out H62.out ht7]
                    subst hq
                    have HT7 := hid (must_yes s8 62 hs2 ht7)
                    clear s8 HT6 ht7 HQ4 H44 H62
                    go_wp2_with fail
                    refine HT7.out.mono ?_
                    rintro e w9 ⟨rfl, s9⟩
                    have S9 := hid s9
                    clear s9 HT7
                    go_wp2_with fail
                    go_end0
                    exact ⟨j1 + 1 + 1, _, _, _, rfl, rfl, by omega, S9.out⟩
end
end Go.Proofs.YteaabbghnfideaaDoor
