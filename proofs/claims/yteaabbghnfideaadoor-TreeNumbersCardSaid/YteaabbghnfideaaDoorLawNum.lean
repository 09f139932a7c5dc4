/-
  TreeNumbers: the law's own walk.
-/
import Derived.Test.YteaabbghnfideaaDoorLawRound
import Derived.Test.YteaabbghnfideaaDoorTCmpC
namespace Go.Proofs.YteaabbghnfideaaDoor
open Go.RowKit
set_option maxHeartbeats 8000000
set_option maxRecDepth 100000

theorem in_I2 (h : Nat → Option Obj) (n : Int) : TIn h (tI n) [.int .i64 1, .int .i64 n, .string ⟨#[]⟩, .slice none 0 0, .slice none 0 0, .slice none 0 0] := in_I h n
theorem ok_I {n : Int} (h : fits n) : TOk (tI n) := by
  have h1 : ByteArray.empty.size = 0 := rfl
  simp [TOk, LOk, tI, h1, fits] at h ⊢
  exact h
theorem right_I (n : Int) : rightOf (tI n) = none := by rfl
theorem cmp_I (a b : Int) : cmp (tI a) (tI b) = ordB a b := by
  rw [cmp_leaf (x := tI a) (y := tI b) rfl (show (1 : Int) ≠ 5 by decide) (show (1 : Int) ≠ 7 by decide)]; rfl
theorem wt_I (a : Int) : wt (tI a) = 2 := by rfl
theorem numbers_walk {W : World} (a b : Int) (ha : fits a) (hb : fits b) (hT : Tab (heapOf W)) :
    Calls Tryd.prog 12 #[.int .i64 a, .int .i64 b] W fun e w' => e = .returned (.bool true) ∧ Below W.heap.size W w' := by
  have HWR := hid (write_any hT (Sat.startArch W) (tI a) _ (in_I2 _ a) (ok_I ha))
  have HT := hid hT
  obtain ⟨r, HR⟩ : ∃ r, Hid (ordB a b = r) := ⟨_, hid rfl⟩
  have HA := hid ha
  have HB := hid hb
  clear hT ha hb
  go_enter Tryd.func12, Tryd.ntmps12
  go_wp2_with fail
  refine HWR.out.mono ?_
  rintro e w2 ⟨sv, ev, h2, rfl, l2, hw, s2⟩
  unfold WOf at hw
  rw [right_I] at hw
  obtain ⟨rfl, q, rfl, hq⟩ := hw
  have L2 := hid l2
  have hps := parse_start s2 (right_txt_size hq (ok_I HA.out) (right_I a))
  rw [parsF_txt hq (ok_I HA.out) (right_I a)] at hps
  have HPS := hid hps
  clear hq l2 s2 HWR hps
  go_wp2_with fail
  refine HPS.out.mono ?_
  rintro e w3 hp
  obtain ⟨ia3, ic3, ra3, rc3, ba3, bc3, h3, rfl, l3, q3, _, _, s3⟩ := hp
  have L3 := hid (L2.out.trans l3)
  have S4 := hid ((s3.alloc' (.cells #[.int .i64 1, .int .i64 a, .string ⟨#[]⟩, .slice ia3 0 ic3, .slice ra3 0 rc3, .slice ba3 0 bc3] 25)))
  have HC := hid (compare_any S4.out (tI a) (tI b) _ _ (in_I2 _ a) (in_I2 _ b) (ok_I HA.out) (ok_I HB.out) (by rw [wt_I, wt_I]; decide))
  rw [cmp_I, HR.out] at HC
  unfold tv6
  have e1 : (tI a).k = 1 := rfl
  have e2 : (tI a).n = a := rfl
  have e3 : (tI a).nm = ⟨#[]⟩ := rfl
  have e4 : (tI a).is.length = 0 := rfl
  have e5 : (tI a).rs.length = 0 := rfl
  have e6 : (tI a).bs.length = 0 := rfl
  rw [e1, e2, e3, e4, e5, e6]
  clear l3 q3 s3 HPS L2 e1 e2 e3 e4 e5 e6
  rcases Int.lt_trichotomy a b with q | q | q
  · have hr : r = -1 := by rw [← HR.out]; unfold ordB; rw [if_pos q]
    subst hr
    have q2 : ¬ b < a := by omega
    go_wp2_with fail
    refine HC.out.mono ?_
    rintro e w4 ⟨rfl, s4⟩
    have S5 := hid s4
    clear s4 HC S4
    go_wp2_with fail
    refine (awake_any S5.out).mono ?_
    rintro e w5 ⟨h5, rfl, l5, s5⟩
    have L5 := hid (L3.out.trans l5)
    have S6 := hid s5
    clear l5 s5 S5
    go_wp2_with fail
    go_ret
    exact ⟨rfl, S6.out.archBelow L5.out⟩
  · subst q
    have hr : r = 0 := by rw [← HR.out]; unfold ordB; rw [if_neg (by omega), if_neg (by omega)]
    subst hr
    go_wp2_with fail
    refine HC.out.mono ?_
    rintro e w4 ⟨rfl, s4⟩
    have S5 := hid s4
    clear s4 HC S4
    go_wp2_with fail
    refine (awake_any S5.out).mono ?_
    rintro e w5 ⟨h5, rfl, l5, s5⟩
    have L5 := hid (L3.out.trans l5)
    have S6 := hid s5
    clear l5 s5 S5
    go_wp2_with fail
    go_ret
    exact ⟨rfl, S6.out.archBelow L5.out⟩
  · have hr : r = 1 := by rw [← HR.out]; unfold ordB; rw [if_neg (by omega), if_pos q]
    subst hr
    have q2 : ¬ a < b := by omega
    go_wp2_with fail
    refine HC.out.mono ?_
    rintro e w4 ⟨rfl, s4⟩
    have S5 := hid s4
    clear s4 HC S4
    go_wp2_with fail
    refine (awake_any S5.out).mono ?_
    rintro e w5 ⟨h5, rfl, l5, s5⟩
    have L5 := hid (L3.out.trans l5)
    have S6 := hid s5
    clear l5 s5 S5
    go_wp2_with fail
    go_ret
    exact ⟨rfl, S6.out.archBelow L5.out⟩
#print axioms numbers_walk
end Go.Proofs.YteaabbghnfideaaDoor
