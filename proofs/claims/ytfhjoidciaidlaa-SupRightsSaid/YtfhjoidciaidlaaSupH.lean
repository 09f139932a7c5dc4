/-
  THE SUPERVISOR: Stop.
-/
import Derived.Test.YtfhjoidciaidlaaSupE
import Derived.Laws.EntriesVeiled
namespace Go.Proofs.Ytfhjoidciaidlaa
open Go.RowKit
set_option maxHeartbeats 400000

def Su.stopAll (s : Su) (now : Int) : Su × List Ac :=
  if s.state = 3 then (s, [])
  else if s.state = 0 then (s.exit, [⟨4, 0⟩])
  else if s.state = 2 then ({ s with rl := ((ups s.kids 0).filter fun (i : Nat) => ((i : Int) != s.stop)).reverse, th := .exit }, [])
  else (s.to_end (ups s.kids 0).reverse .exit).next now

section
variable {W w : World} {L : List HP} {h : Nat → Option Obj} {p : Nat} {s : Su}
theorem filt_snoc {l : List Nat} {i : Nat} {x : Nat} (f : Nat → Bool) (hx : l[i]? = some x) : (l.take (i + 1)).filter f = (l.take i).filter f ++ if f x = true then [x] else [] := by
  rw [List.take_add_one, hx, List.filter_append]
  congr 1
  by_cases q : f x = true <;> simp [q]
theorem filt_len (l : List Nat) (i : Nat) (f : Nat → Bool) : ((l.take i).filter f).length ≤ i := Nat.le_trans (List.length_filter_le _ _) (List.length_take_le _ _)
set_option maxRecDepth 100000 in
set_option maxHeartbeats 2000000 in
theorem stop_sup (S : Sat W w (sup p h s :: arch h :: L)) (now : Int) (hk : s.kids.length ≤ 10000) :
    Calls Try.prog 26 #[.pointer (some ⟨p, 0, none⟩), .int .i64 now] w fun e w' => ∃ a n c, e = .returned (.slice a n c) ∧ n = (s.stopAll now).2.length ∧ Sat W w' (row 46 2 a n c (acVals (s.stopAll now).2) :: sup p h (s.stopAll now).1 :: arch h :: L) := by
  obtain ⟨R, ht, s'⟩ := sup_open S
  have c5 : w.cell? ⟨p, 5, none⟩ = some (.int .i64 s.state) := s'.cell 5
  by_cases h3 : s.state = 3
  · have hr : s.stopAll now = (s, []) := by simp [Su.stopAll, h3]
    rw [hr]
    rw [h3] at c5
    have S1 := hid S
    clear S s' ht
    go_enter Try.func26, Try.ntmps26
    go_wp2_with fail
    go_ret
    exact ⟨_, _, _, rfl, rfl, S1.out.rowNil⟩
  · by_cases h0 : s.state = 0
    · have hr : s.stopAll now = (s.exit, [⟨4, 0⟩]) := by simp [Su.stopAll, h0]
      rw [hr]
      rw [h0] at c5
      have S1 := hid S
      clear S s' ht
      go_enter Try.func26, Try.ntmps26
      go_wp2_with fail
      refine (exit_sup S1.out).mono ?_
      rintro e w1 ⟨a, n, c, rfl, hn, s1⟩
      have HN := hid hn
      have S2 := hid s1
      clear s1 hn S1 c5
      go_wp2_with fail
      go_ret
      exact ⟨_, _, _, rfl, HN.out, S2.out⟩
    · have hd3 : (s.state == 3) = false := by simpa using h3
      have hd0 : (s.state == 0) = false := by simpa using h0
      by_cases h2 : s.state = 2
      · obtain ⟨q, HQ⟩ : ∃ q, Hid (s.stopAll now = q) := ⟨_, rfl⟩
        rw [HQ.out]
        have hq := HQ.out
        unfold Su.stopAll at hq
        rw [if_neg h3, if_neg h0, if_pos h2] at hq
        have HQ2 := hid hq
        rw [h2] at c5
        have S1 := hid S
        clear S s' ht hq HQ
        go_enter Try.func26, Try.ntmps26
        go_wp2_with fail
        refine (ups_sup S1.out 0 hk).mono ?_
        rintro e w1 ⟨a, n, c, rfl, hn, s1⟩
        obtain ⟨U, HU⟩ : ∃ U, Hid (ups s.kids 0 = U) := ⟨_, rfl⟩
        have hul := ups_length s.kids 0
        rw [HU.out] at hn s1 hul
        rw [HU.out] at HQ2
        subst hn
        have S2 := hid (s1.rowNil (e := 3) (size := 1))
        clear s1 S1 c5
        go_wp2_with fail
        go_loopw [5, 23] (fun lv iv wr => ∃ (i : Nat) (A : Option Addr) (ca : Nat), i ≤ U.length ∧ iv = .int .i64 i ∧ lv = .slice A ((U.take i).filter fun (i : Nat) => ((i : Int) != s.stop)).length ca ∧ Hid (Sat W wr (row 3 1 A ((U.take i).filter fun (i : Nat) => ((i : Int) != s.stop)).length ca (i64s (ints ((U.take i).filter fun (i : Nat) => ((i : Int) != s.stop)))) :: row 3 1 a U.length c (i64s (ints U)) :: sup p h s :: arch h :: L))) (fun _ iv _ => U.length - (intOf iv).toNat)
        case atStart => exact ⟨0, none, 0, Nat.zero_le _, rfl, rfl, S2⟩
        case round =>
          obtain ⟨i, A, ca, hi, rfl, rfl, S⟩ := hrel
          clear S2
          have hfl := filt_len U i (fun (i : Nat) => ((i : Int) != s.stop))
          obtain ⟨R, ht, s'⟩ := sup_open S.out.rot3
          have c8 : wr.cell? ⟨p, 8, none⟩ = some (.int .i64 s.stop) := s'.cell 8
          by_cases hlt : i < U.length
          · obtain ⟨x, hx⟩ : ∃ x, U[i]? = some x := ⟨_, List.getElem?_eq_getElem hlt⟩
            obtain ⟨g, off, rfl, e0⟩ := S.out.drop.rowRd i _ (get_i64s (l := ints U) (k := i) (x := (x : Int)) (by simp [ints, hx]))
            have HS := filt_snoc (fun (i : Nat) => ((i : Int) != s.stop)) hx
            have S3 := hid S.out
            clear s' ht S
            cases hxs : ((x : Int) != s.stop) with
            | true =>
              simp only [hxs, if_true] at HS
              have HS2 := hid HS
              clear HS hx
              go_wp2_with (at_builtin; refine wpList_push_row rfl _ _ rfl elemInt rfl S3.out (.int .i64 x) rfl (by simp) rfl (by unfold maxLen; omega) (by omega) ?_; intro a' c' w3 s4 ha' hz; have S4 := hid s4; clear s4 S3 c8 e0)
              go_roundw
              case rel =>
                refine ⟨i + 1, a', c', by omega, by go_num, by rw [HS2.out]; simp, hid ?_⟩
                have := S4.out
                rw [HS2.out]
                simpa [ints, i64s] using this
              case measure => simp [intOf]; omega
            | false =>
              simp only [hxs, if_false, Bool.false_eq_true, List.append_nil] at HS
              have HS2 := hid HS
              clear HS hx
              go_wp2_with fail
              go_roundw
              case rel => exact ⟨i + 1, A, ca, by omega, by go_num, by rw [HS2.out], by rw [HS2.out]; exact S3⟩
              case measure => simp [intOf]; omega
          · obtain rfl : i = U.length := by omega
            rw [List.take_length] at S ⊢
            rw [List.take_length] at s' hfl
            obtain ⟨F, HF⟩ : ∃ F, Hid (U.filter (fun (i : Nat) => ((i : Int) != s.stop)) = F) := ⟨_, rfl⟩
            rw [HF.out] at s' hfl HQ2 ⊢
            clear S c8
            obtain ⟨ka, kc, na, nc, la, lc, tv⟩ := R
            have c7 : wr.cell? ⟨p, 7, none⟩ = some (.slice la s.rl.length lc) := s'.cell 7
            have f7 := s'.free 7
            have s2 := s'.set 7 (.slice A F.length ca)
            have c11 : World.cell? _ _ = some tv := s2.cell 11
            have f11 := s2.free 11
            have s3 := s2.set 11 (.func (.func 44) #[.pointer (some ⟨p, 0, none⟩)] #[])
            have s4 : Sat W _ (sup p h { s with rl := F.reverse, th := .exit } :: arch h :: L) := Sat.mkbun (α := SR) ⟨ka, kc, na, nc, A, ca, .func (.func 44) #[.pointer (some ⟨p, 0, none⟩)] #[]⟩ rfl (by
              simp only [supParts, supCells, List.length_reverse, List.reverse_reverse]
              exact s3.rot4.drop.rot5.drop)
            have S4 := hid s4
            clear s' s2 s3 s4 ht
            go_wp2_with fail
            go_ret
            rw [← HQ2.out]
            exact ⟨_, _, _, rfl, rfl, S4.out.rowNil⟩
      · have hd2 : (s.state == 2) = false := by simpa using h2
        obtain ⟨q, HQ⟩ : ∃ q, Hid (s.stopAll now = q) := ⟨_, rfl⟩
        rw [HQ.out]
        have hq := HQ.out
        unfold Su.stopAll at hq
        rw [if_neg h3, if_neg h0, if_neg h2] at hq
        have HQ2 := hid hq
        have S1 := hid S
        have hff := fit_ups (s := s) (f := 0) (th := .exit) hk (by simp) (by simp)
        have HFF := hid hff
        clear S s' ht hq HQ hff
        go_enter Try.func26, Try.ntmps26
        go_wp2_with fail
        refine (ups_sup S1.out 0 hk).mono ?_
        rintro e w1 ⟨a, n, c, rfl, hn, s1⟩
        have S2 := hid s1
        have S2' := hid (s1.head (B := row 3 1 a n c (i64s (ints (ups s.kids 0).reverse.reverse))) (by rw [List.reverse_reverse]; exact fun _ q => q))
        have HN := hid (show n = (ups s.kids 0).reverse.length by rw [List.length_reverse]; exact hn)
        clear s1 S1 hn c5
        go_wp2_with fail
        refine (end_sup (rl := (ups s.kids 0).reverse) (th := .exit) S2'.out HN.out rfl HFF.out now).mono ?_
        rintro e w2 ⟨a, n, c, rfl, hn, s2⟩
        have HN2 := hid hn
        have S3 := hid s2
        clear s2 hn S2 S2'
        go_wp2_with fail
        go_ret
        rw [← HQ2.out]
        exact ⟨_, _, _, rfl, HN2.out, S3.out⟩
end
end Go.Proofs.Ytfhjoidciaidlaa
