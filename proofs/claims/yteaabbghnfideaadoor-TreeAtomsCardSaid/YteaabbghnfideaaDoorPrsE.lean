/-
  tree.Parse: name: the walk.
-/
import Derived.Test.YteaabbghnfideaaDoorPrsD
namespace Go.Proofs.YteaabbghnfideaaDoor
open Go.RowKit
set_option maxHeartbeats 4000000
set_option maxRecDepth 100000

theorem nameF_end (out : List Int) : nameF out [] = none := by rw [nameF]
theorem nameF_q {out r : List Int} {c : Int} (h : c = 39) : nameF out (c :: r) = if out = [] ∨ wordL out = true then none else some (out, r) := by rw [nameF, if_pos h]
theorem nameF_bad {out r : List Int} {c : Int} (h : c ≠ 39) (h2 : out.length = 255 ∨ oddB c = true) : nameF out (c :: r) = none := by rw [nameF, if_neg h, if_pos h2]
theorem nameF_c {out r : List Int} {c : Int} (h : c ≠ 39) (h2 : ¬ (out.length = 255 ∨ oddB c = true)) (h3 : c ≠ 92) : nameF out (c :: r) = nameF (out ++ [c]) r := by rw [nameF, if_neg h, if_neg h2, if_neg h3]
theorem nameF_e0 {out r : List Int} {c : Int} (h : c = 92) (h2 : ¬ (out.length = 255 ∨ oddB c = true)) (h3 : escF r = none) : nameF out (c :: r) = none := by
  rw [nameF, if_neg (by omega), if_neg h2, if_pos h]
  split
  · rfl
  · rename_i e; rw [h3] at e; cases e
theorem nameF_e {out r r2 : List Int} {c d : Int} (h : c = 92) (h2 : ¬ (out.length = 255 ∨ oddB c = true)) (h3 : escF r = some (d, r2)) : nameF out (c :: r) = nameF (out ++ [d]) r2 := by
  rw [nameF, if_neg (by omega), if_neg h2, if_pos h]
  split
  · rename_i e; rw [h3] at e; cases e
  · rename_i e; rw [h3] at e; cases e; rfl
section
variable {W w : World} {L : List HP} {p i : Nat} {s : ByteArray}
def NameP (W : World) (L : List HP) (p : Nat) (s : ByteArray) (q : Option (List Int × List Int)) (e : Ending) (w' : World) : Prop := match q with
  | some (l, r) => ∃ j, e = .returned (.string (strOfNums l)) ∧ r = rem s j ∧ j ≤ s.size ∧ Sat W w' (PB p s j false :: L)
  | none => ∃ j, e = .returned (.string ⟨#[]⟩) ∧ j ≤ s.size ∧ Sat W w' (PB p s j true :: L)
theorem name_any (S : Sat W w (PB p s i false :: L)) (hi : i ≤ s.size) (hs : s.size ≤ 4294967296) :
    Calls Tryd.prog 81 #[.pointer (some ⟨p, 0, none⟩)] w (NameP W L p s (nameF [] (rem s i))) := by
  have hs2 : s.size ≤ 140737488351232 := by omega
  obtain ⟨q, HQ⟩ : ∃ q, Hid (nameF [] (rem s i) = q) := ⟨_, hid rfl⟩
  rw [HQ.out]
  have S0 : Hid (Sat W w (PB p s i false :: row 5 1 none 0 0 (u8s []) :: L)) := hid ((S.rowNil (e := 5) (size := 1)).swap)
  clear S
  go_enter Tryd.func81, Tryd.ntmps81
  go_wp2_with fail
  go_loopw [3] (fun ov wr => ∃ (j : Nat) (a : Option Addr) (n c : Nat) (out : List Int), j ≤ s.size ∧ ov = .slice a n c ∧ n ≤ 255 ∧ Hid (n = out.length) ∧ Hid (InB out) ∧ Hid (q = nameF out (rem s j)) ∧ Hid (Sat W wr (PB p s j false :: row 5 1 a n c (u8s out) :: L))) (fun _ wr => match wr.cell? ⟨p, 1, none⟩ with | some v => s.size - (intOf v).toNat | none => 0)
  case atStart => exact ⟨i, none, 0, 0, [], hi, rfl, by omega, hid rfl, hid (fun x hx => by cases hx), hid HQ.out.symm, S0⟩
  case round =>
    obtain ⟨j, a, n, c, out, hj, rfl, hn, HN, HI, HR, S⟩ := hrel
    clear S0 HQ
    have c0 : wr.cell? ⟨p, 0, none⟩ = some (.string s) := S.out.cell 0
    have c1 : wr.cell? ⟨p, 1, none⟩ = some (.int .i64 j) := S.out.cell 1
    have c2 : wr.cell? ⟨p, 2, none⟩ = some (.bool false) := S.out.cell 2
    have f1 := S.out.free 1
    have f2 := S.out.free 2
    by_cases hjl : j < s.size
    · have hdl : decide ((j : Int) < (s.size : Int)) = true := decide_eq_true (by omega)
      have hji : (j : Int) < (s.size : Int) := by omega
      have hrl := rem_lt hjl
      rw [hrl] at HR
      have HRL := hid hrl
      have hb255 : 0 ≤ ((s[j]).toNat : Int) ∧ ((s[j]).toNat : Int) ≤ 255 := by have := (s[j]).toNat_lt; omega
      clear hrl
      by_cases h39 : ((s[j]).toNat : Int) = 39
      · have hb39 : (((s[j]).toNat : Int) == 39) = true := by simpa using h39
        have hq := HR.out.trans (nameF_q h39)
        have HQ2 := hid hq
        have hv1 : ∀ m, (convert 23 9 (.slice a n c)).run Tryd.prog (wr.drewN m) = .ok (.string (strOfNums out)) (wr.drewN m) := fun m => conv_rd Tryd.underlying23 Tryd.underlying5 Tryd.underlying9 HN.out.symm ((S.out.drewN m).swap.rowRd)
        have S5 := hid (fun m => (S.out.drewN m).set 1 (.int .i64 ((j : Int) + 1)))
        have hv2 : ∀ m, (convert 23 9 (.slice a n c)).run Tryd.prog ((wr.drewN m).setCell ⟨p, 1, none⟩ (.int .i64 ((j : Int) + 1))) = .ok (.string (strOfNums out)) ((wr.drewN m).setCell ⟨p, 1, none⟩ (.int .i64 ((j : Int) + 1))) := fun m => conv_rd Tryd.underlying23 Tryd.underlying5 Tryd.underlying9 HN.out.symm ((S5.out m).swap.rowRd)
        have S6 := hid (fun m => (S.out.drewN m).set 2 (.bool true))
        clear hq h39 HR
        by_cases hout : out = []
        · have hq : q = none := by rw [HQ2.out, if_pos (.inl hout)]
          subst hq
          have e1 : (strOfNums out).toList = [] := by rw [hout, ByteArray.toList_eq]; rfl
          clear hout
          go_wp2_with fail
          go_quiet (fail)
          go_wp2_with fail
          go_quiet (fail)
          go_wp2_with fail
          go_ret
          exact ⟨j, rfl, hj, (S6.out _).swap.drop⟩
        · obtain ⟨e1, _, e2⟩ := size1 (s := strOfNums out) (by rw [size_strOf]; intro x; exact hout (List.eq_nil_of_length_eq_zero x))
          have hwl : wordB (strOfNums out) = wordL out := by unfold wordB; rw [byts_strOf HI.out]; rfl
          have HW := hid (fun (wx : World) => word_any (strOfNums out) wx (by rw [size_strOf]; have := HN.out; omega))
          rw [hwl] at HW
          obtain ⟨wl, hwl2⟩ : ∃ wl, wordL out = wl := ⟨_, rfl⟩
          rw [hwl2] at HW HQ2
          have HOUT := hid hout
          clear hwl hwl2 hout
          cases wl with
          | true =>
            have hq : q = none := by rw [HQ2.out, if_pos (.inr rfl)]
            subst hq
            go_wp2_with fail
            go_quiet (fail)
            go_wp2_with fail
            go_quiet (fail)
            go_wp2_with fail
            refine (HW.out _).mono ?_
            rintro e w5 ⟨rfl, rfl⟩
            go_wp2_with fail
            go_ret
            exact ⟨j, rfl, hj, (S6.out _).swap.drop⟩
          | false =>
            have hq : q = some (out, rem s (j + 1)) := by rw [HQ2.out, if_neg (by rintro (x | x); exact HOUT.out x; cases x)]
            subst hq
            go_wp2_with fail
            go_quiet (fail)
            go_wp2_with fail
            go_quiet (fail)
            go_wp2_with fail
            refine (HW.out _).mono ?_
            rintro e w5 ⟨rfl, rfl⟩
            go_wp2_with fail
            go_ret
            exact ⟨j + 1, rfl, rfl, by omega, (S5.out _).swap.drop⟩
      · have hb39 : (((s[j]).toNat : Int) == 39) = false := by simpa using h39
        have hnb : n ≤ 255 := hn
        obtain ⟨ob, hob⟩ : ∃ ob, oddB ((s[j]).toNat : Int) = ob := ⟨_, rfl⟩
        have HOD : Hid (∀ wx, Calls Tryd.prog 73 #[.int .u8 ((s[j]).toNat : Int)] wx fun e w' => e = .returned (.bool ob) ∧ wx = w') := hid fun wx => by
          have := odd_any ((s[j]).toNat : Int) wx
          rwa [hob] at this
        have HOB := hid hob
        have S6 := hid (fun m => (S.out.drewN m).set 2 (.bool true))
        clear hob
        by_cases hn255 : n = 255
        · have hq : q = none := by rw [HR.out]; exact nameF_bad h39 (.inl (by have := HN.out; omega))
          subst hq
          subst hn255
          clear HR h39
          go_wp2_with fail
          go_quiet (fail)
          go_wp2_with fail
          go_quiet (fail)
          go_wp2_with fail
          go_ret
          exact ⟨j, rfl, hj, (S6.out _).swap.drop⟩
        have hb255n : ((n : Int) == 255) = false := by simp; omega
        have hlen : ¬ out.length = 255 := by have := HN.out; omega
        cases ob with
        | true =>
          have hq : q = none := by rw [HR.out]; exact nameF_bad h39 (.inr HOB.out)
          subst hq
          clear HR h39
          go_wp2_with fail
          go_quiet (fail)
          go_wp2_with fail
          go_quiet (fail)
          go_wp2_with fail
          refine (HOD.out _).mono ?_
          rintro e w5 ⟨rfl, rfl⟩
          go_wp2_with fail
          go_ret
          exact ⟨j, rfl, hj, (S6.out _).swap.drop⟩
        | false =>
          have hnb2 : ¬ (out.length = 255 ∨ oddB ((s[j]).toNat : Int) = true) := by rw [HOB.out]; rintro (x | x); exact hlen x; cases x
          by_cases h92 : ((s[j]).toNat : Int) = 92
          · have hb92 : (((s[j]).toNat : Int) == 92) = true := by simpa using h92
            have H92 := hid h92
            have HNB := hid hnb2
            have S5 := hid (fun m => (S.out.drewN m).set 1 (.int .i64 ((j : Int) + 1)))
            have HE := hid (fun m => escape_any (s := s) (p := p) (i := j + 1) (S5.out m) (by omega) hs)
            obtain ⟨d, hd⟩ : ∃ d, escF (rem s (j + 1)) = d := ⟨_, rfl⟩
            rw [hd] at HE
            have HD := hid hd
            clear h92 hnb2 hlen hd h39 S6
            go_wp2_with fail
            go_quiet (fail)
            go_wp2_with fail
            go_quiet (fail)
            go_wp2_with fail
            refine (HOD.out _).mono ?_
            rintro e w5 ⟨rfl, rfl⟩
            go_wp2_with fail
            refine (HE.out _).mono ?_
            rintro e w6 he
            cases d with
            | none =>
              have hq : q = none := by rw [HR.out]; exact nameF_e0 H92.out HNB.out HD.out
              subst hq
              obtain ⟨k, rfl, hk, s7⟩ := he
              have d2 : w6.cell? ⟨p, 2, none⟩ = some (.bool true) := s7.cell 2
              have S7 := hid s7
              clear s7 HE HR S5 c0 c1 c2 f1 f2
              go_wp2_with fail
              go_ret
              exact ⟨k, rfl, hk, S7.out.swap.drop⟩
            | some dr =>
              obtain ⟨dv, r2⟩ := dr
              obtain ⟨k, rfl, hk, rfl, s7⟩ := he
              obtain ⟨hd0, hd1, _⟩ := escF_back HD.out
              have hq : q = nameF (out ++ [dv]) (rem s (k + 1)) := by rw [HR.out]; exact nameF_e H92.out HNB.out HD.out
              have HQ2 := hid hq
              have hjk : j + 1 ≤ k := by
                have h9 := escF_lt HD.out
                rw [rem_len, rem_len] at h9
                omega
              have d2 : w6.cell? ⟨p, 2, none⟩ = some (.bool false) := s7.cell 2
              have S7 := hid s7.swap
              clear s7 HE HR S5 hq c0 c2 f1 f2
              go_wp2_with (at_builtin; refine wpList_push_row rfl _ _ rfl elem8 rfl S7.out (.int .u8 dv) rfl (by simp) rfl (by unfold maxLen; omega) (by omega) ?_; intro a' c' w8 s8 ha' hz; have S8 := hid s8.swap; clear s8; have g1 : w8.cell? ⟨p, 1, none⟩ = some (.int .i64 (k : Int)) := S8.out.cell 1; have g1f := S8.out.free 1)
              have S9 := hid (S8.out.set 1 (.int .i64 ((k : Int) + 1)))
              clear S8 S7 d2
              go_roundw
              case rel => exact ⟨k + 1, a', n + 1, c', out ++ [dv], by omega, rfl, by omega, hid (by rw [HN.out]; simp), hid (fun x hx => by rcases List.mem_append.1 hx with hx | hx; exact HI.out x hx; simp at hx; subst hx; exact ⟨hd0, hd1⟩), HQ2, by rw [u8s_snoc]; exact S9⟩
              case measure =>
                have e1 : (w8.setCell ⟨p, 1, none⟩ (.int .i64 ((k : Int) + 1))).cell? ⟨p, 1, none⟩ = some (.int .i64 ((k + 1 : Nat) : Int)) := S9.out.cell 1
                rw [e1, c1]
                simp [intOf]; omega
          · have hb92 : (((s[j]).toNat : Int) == 92) = false := by simpa using h92
            have hq : q = nameF (out ++ [((s[j]).toNat : Int)]) (rem s (j + 1)) := by rw [HR.out]; exact nameF_c h39 hnb2 h92
            have HQ2 := hid hq
            have SR := hid (fun m => (S.out.drewN m).swap)
            clear h92 hnb2 hlen h39 S6 hq HR
            go_wp2_with fail
            go_quiet (fail)
            go_wp2_with fail
            go_quiet (fail)
            go_wp2_with fail
            refine (HOD.out _).mono ?_
            rintro e w5 ⟨rfl, rfl⟩
            go_wp2_with (at_builtin; refine wpList_push_row rfl _ _ rfl elem8 rfl (SR.out _) (.int .u8 ((s[j]).toNat : Int)) rfl (by simp) rfl (by unfold maxLen; omega) (by omega) ?_; intro a' c' w8 s8 ha' hz; have S8 := hid s8.swap; clear s8; have g1 : w8.cell? ⟨p, 1, none⟩ = some (.int .i64 (j : Int)) := S8.out.cell 1; have g1f := S8.out.free 1)
            have S9 := hid (S8.out.set 1 (.int .i64 ((j : Int) + 1)))
            clear S8
            go_roundw
            case rel => exact ⟨j + 1, a', n + 1, c', out ++ [((s[j]).toNat : Int)], by omega, rfl, by omega, hid (by rw [HN.out]; simp), hid (fun x hx => by rcases List.mem_append.1 hx with hx | hx; exact HI.out x hx; simp at hx; subst hx; exact hb255), HQ2, by rw [u8s_snoc]; exact S9⟩
            case measure =>
              have e1 : (w8.setCell ⟨p, 1, none⟩ (.int .i64 ((j : Int) + 1))).cell? ⟨p, 1, none⟩ = some (.int .i64 ((j + 1 : Nat) : Int)) := S9.out.cell 1
              rw [e1, c1]
              simp [intOf]; omega
    · have hdl : decide ((j : Int) < (s.size : Int)) = false := decide_eq_false (by omega)
      have hq : q = none := by rw [HR.out, rem_end (by omega), nameF_end]
      subst hq
      have S6 := hid (fun m => (S.out.drewN m).set 2 (.bool true))
      clear HR
      go_wp2_with fail
      go_quiet (fail)
      go_wp2_with fail
      go_ret
      exact ⟨j, rfl, hj, (S6.out _).swap.drop⟩
end
end Go.Proofs.YteaabbghnfideaaDoor
