/-
  VetRows: the law's walk. (Written by wip/gen/gen_vetrw.py.)
-/
import Derived.Test.YtohdhckafebmhaaDoorVetX
namespace Go.Proofs.YtohdhckafebmhaaDoor
open Go.RowKit
set_option maxHeartbeats 4000000
set_option maxRecDepth 100000

theorem rows_in {h : Nat → Option Obj} {op a c f b1 b2 b3 : Nat} (r1 : RdIn h (some ⟨b1, 0, none⟩) ([rowsI op a c, ⟨15, 0, 0, 0⟩].flatMap InVals)) (r2 : RdIn h (some ⟨b2, 0, none⟩) (([⟨15, 0, 0, 0⟩] : List In).flatMap InVals))
    (r3 : RdIn h (some ⟨b3, 0, none⟩) [.string tF, .int .i64 0, .int .i64 0, .slice (some ⟨b1, 0, none⟩) 2 2, .string tG, .int .i64 f, .int .i64 0, .slice (some ⟨b2, 0, none⟩) 1 1]) : FsIn h (rowsM op a c f).fs (some ⟨b3, 0, none⟩) := by
  intro i g hg
  match i, hg with
  | 0, hg =>
    obtain rfl : (⟨tF, 0, 0, [rowsI op a c, ⟨15, 0, 0, 0⟩]⟩ : Fn) = g := by simpa [rowsM] using hg
    refine ⟨b3, 0, fnVals ⟨tF, 0, 0, [rowsI op a c, ⟨15, 0, 0, 0⟩]⟩ (some ⟨b1, 0, none⟩) 2, rfl, fun j u hu => ?_, _, 2, rfl, r1, Nat.le_refl 2, by decide⟩
    have hj : j < 4 := (List.getElem?_eq_some_iff.1 hu).1
    obtain ⟨g, off, e, hc⟩ := r3 j u (by match j, hj with | 0, _ => exact hu | 1, _ => exact hu | 2, _ => exact hu | 3, _ => exact hu)
    cases e
    simpa using hc
  | 1, hg =>
    obtain rfl : (⟨tG, f, 0, [⟨15, 0, 0, 0⟩]⟩ : Fn) = g := by simpa [rowsM] using hg
    refine ⟨b3, 0, fnVals ⟨tG, f, 0, [⟨15, 0, 0, 0⟩]⟩ (some ⟨b2, 0, none⟩) 1, rfl, fun j u hu => ?_, _, 1, rfl, r2, Nat.le_refl 1, by decide⟩
    have hj : j < 4 := (List.getElem?_eq_some_iff.1 hu).1
    obtain ⟨g, off, e, hc⟩ := r3 (4 + j) u (by match j, hj with | 0, _ => exact hu | 1, _ => exact hu | 2, _ => exact hu | 3, _ => exact hu)
    cases e
    have h2 : 0 + (4 + j) = 0 + 1 * 4 + j := by omega
    rw [← h2]
    exact hc
  | i + 2, hg => simp [rowsM] at hg
theorem rows_fit {op a c f : Nat} (ha : a < 18) (hc : c < 17) (hf : f < 9) : ∀ g ∈ (rowsM op a c f).fs, FnOk g := by
  have hi : InOk (rowsI op a c) := by
    unfold rowsI
    split
    · exact ⟨(by decide : fits 2), (by decide : fits 0), (show fits ((a : Nat) : Int) by unfold fits; omega), (show fits ((c : Nat) : Int) by unfold fits; omega)⟩
    · split
      · exact ⟨(by decide : fits 16), (by decide : fits 0), (by decide : fits 1), (show fits ((a : Nat) : Int) by unfold fits; omega)⟩
      · exact ⟨(by decide : fits 37), (by decide : fits 0), (show fits ((a : Nat) : Int) by unfold fits; omega), (by decide : fits 0)⟩
  have hr : InOk ⟨15, 0, 0, 0⟩ := ⟨by decide, by decide, by decide, by decide⟩
  intro g hg
  simp only [rowsM, List.mem_cons, List.not_mem_nil, or_false] at hg
  rcases hg with rfl | rfl
  · refine ⟨(by decide : fits 0), (by decide : fits 0), fun x hx => ?_, (by show 2 ≤ _; omega), (by decide : tF.size ≤ 140737488351232)⟩
    simp only [List.mem_cons, List.not_mem_nil, or_false] at hx
    rcases hx with rfl | rfl
    · exact hi
    · exact hr
  · refine ⟨(show fits ((f : Nat) : Int) by unfold fits; omega), (by decide : fits 0), fun x hx => ?_, (by show 1 ≤ _; omega), (by decide : tG.size ≤ 140737488351232)⟩
    simp only [List.mem_cons, List.not_mem_nil, or_false] at hx
    subst hx
    exact hr
theorem rows_nobif {op a c f : Nat} : BifM (rowsM op a c f) := by
  intro g hg x hx e
  exfalso
  simp only [rowsM, List.mem_cons, List.not_mem_nil, or_false] at hg
  have hi : (rowsI op a c).op ≠ 12 := by unfold rowsI; split; exact (by decide : (2 : Int) ≠ 12); split; exact (by decide : (16 : Int) ≠ 12); exact (by decide : (37 : Int) ≠ 12)
  rcases hg with rfl | rfl
  · simp only [List.mem_cons, List.not_mem_nil, or_false] at hx
    rcases hx with rfl | rfl
    · exact hi e
    · revert e; decide
  · simp only [List.mem_cons, List.not_mem_nil, or_false] at hx
    subst hx
    revert e; decide
theorem rows_walk {W : World} (x y z : Int) : Calls Tryd.prog 8 #[.int .i64 x, .int .i64 y, .int .i64 z] W fun e w' => e = .returned (.bool true) ∧ Below W.heap.size W w' := by
  obtain ⟨q, HQ⟩ : ∃ q : Nat, Hid (z % 3 = (q : Int)) := ⟨(z % 3).toNat, hid (by omega)⟩
  have hq : q < 3 := by have := HQ.out; omega
  obtain ⟨p, HP⟩ : ∃ p : Nat, Hid (x % 18 = (p : Int)) := ⟨(x % 18).toNat, hid (by omega)⟩
  have hp : p < 18 := by have := HP.out; omega
  obtain ⟨c, HC⟩ : ∃ c : Nat, Hid (y % 17 = (c : Int)) := ⟨(y % 17).toNat, hid (by omega)⟩
  have hc : c < 17 := by have := HC.out; omega
  obtain ⟨f, HF⟩ : ∃ f : Nat, Hid (y % 9 = (f : Int)) := ⟨(y % 9).toNat, hid (by omega)⟩
  have hf : f < 9 := by have := HF.out; omega
  have h1 := place_any z 3 W (by omega) (by omega)
  have h2 := place_any x 18 W (by omega) (by omega)
  have h3 := place_any y 17 W (by omega) (by omega)
  have h4 := place_any y 9 W (by omega) (by omega)
  rw [HQ.out] at h1
  rw [HP.out] at h2
  rw [HC.out] at h3
  rw [HF.out] at h4
  have hv := rows_ok ⟨q, hq⟩ ⟨p, hp⟩ ⟨c, hc⟩ ⟨f, hf⟩
  simp only at hv
  have HV := hid hv
  clear hv
  rcases (show q = 0 ∨ q = 1 ∨ q = 2 by omega) with rfl | rfl | rfl
  · go_enter Tryd.func8, Tryd.ntmps8
    go_wp2_with fail
    refine h1.mono ?_
    rintro e w1 ⟨rfl, rfl⟩
    go_wp2_with fail
    refine h2.mono ?_
    rintro e w1 ⟨rfl, rfl⟩
    go_wp2_with fail
    refine h3.mono ?_
    rintro e w1 ⟨rfl, rfl⟩
    go_wp2_with fail
    refine h4.mono ?_
    rintro e w1 ⟨rfl, rfl⟩
    clear h1 h2 h3 h4
    go_wp2_with fail
    obtain ⟨g1, l1, r1, s1⟩ := store_lit (((((Sat.startArch W).alloc' (.cells #[.int .i64 2, .int .i64 0, .int .i64 (p : Nat), .int .i64 (c : Nat), .int .i64 16, .int .i64 0, .int .i64 1, .int .i64 (p : Nat), .int .i64 37, .int .i64 0, .int .i64 (p : Nat), .int .i64 0] 36)).alloc' (.cells #[.int .i64 2, .int .i64 0, .int .i64 (p : Nat), .int .i64 (c : Nat)] 36)).alloc' (.cells #[.int .i64 (c : Nat), .int .i64 (f : Nat), .int .i64 3] 3)).allocAt (k := W.heap.size + 3) (.cells #[.int .i64 2, .int .i64 0, .int .i64 (p : Nat), .int .i64 (c : Nat), .int .i64 15, .int .i64 0, .int .i64 0, .int .i64 0] 36) (by simp))
    obtain ⟨g2, l2, r2, s2⟩ := store_lit (s1.allocAt (k := W.heap.size + 4) (.cells #[.int .i64 15, .int .i64 0, .int .i64 0, .int .i64 0] 36) (by simp))
    obtain ⟨g3, l3, r3, s3⟩ := store_lit (s2.allocAt (k := W.heap.size + 5) (.cells #[.string ⟨#[102]⟩, .int .i64 0, .int .i64 0, .slice (some ⟨W.heap.size + 3, 0, none⟩) 2 2, .string ⟨#[103]⟩, .int .i64 (f : Nat), .int .i64 0, .slice (some ⟨W.heap.size + 4, 0, none⟩) 1 1] 40) (by simp))
    have L3 := hid ((l1.trans l2).trans l3)
    have HM := hid (vet_any (fc := 2) (lc := 0) (la := none) (s3.alloc' (.cells #[.string ⟨#[]⟩, .slice none 0 0, .slice (some ⟨W.heap.size + 5, 0, none⟩) 2 2] 25)) (rowsM 0 p c f) (by show 2 ≤ _; omega) (by show 0 ≤ _; omega) ⟨Nat.le_refl 2, by decide⟩ (LIn.nil _ _) (by simp [rowsM, LOk]) (rows_in ((r1.mono l2).mono l3) (r2.mono l3) r3) (rows_fit hp hc hf) rows_nobif)
    have hv0 : vetE (rowsM 0 p c f) = if p < 16 ∧ p + (c : Nat) ≤ 16 then none else err3 0 12 := HV.out
    rw [hv0] at HM
    clear hv0
    clear l1 l2 l3 r1 r2 r3 s1 s2 s3
    by_cases hok : p < 16 ∧ p + (c : Nat) ≤ 16
    · obtain ⟨ho1, ho2⟩ := hok
      rw [if_pos ⟨ho1, ho2⟩] at HM
      have i1 : ((p : Nat) : Int) < 16 := by omega
      have i2 : decide (((p : Nat) : Int) + ((c : Nat) : Int) ≤ 16) = true := decide_eq_true (by omega)
      go_wp2_with fail
      refine HM.out.mono ?_
      rintro e w6 ⟨vv, h3, rfl, l3, q3, s3⟩
      obtain rfl : vv = .nilIface := q3
      have L4 := hid (L3.out.trans l3)
      have S3 := hid s3
      clear HM L3 l3 s3
      go_wp2_with fail
      refine (awake10 S3.out).mono ?_
      rintro e w9 ⟨h9, rfl, l9, s9⟩
      have L9 := hid (L4.out.trans l9)
      have S9 := hid s9
      clear l9 s9 S3
      go_wp2_with fail
      go_ret
      exact ⟨rfl, S9.out.archBelow L9.out⟩
    · rw [if_neg hok] at HM
      by_cases ho1 : p < 16
      · have i1 : ((p : Nat) : Int) < 16 := by omega
        have i2 : decide (((p : Nat) : Int) + ((c : Nat) : Int) ≤ 16) = false := decide_eq_false (by omega)
        go_wp2_with fail
        refine HM.out.mono ?_
        rintro e w6 ⟨vv, h3, rfl, l3, q3, s3⟩
        obtain ⟨q4, _⟩ : ErrIn h3 vv [(tMod, 0), (tFun, 0), (tAt, 0)] 12 ∧ (12 : Int) ≠ 0 := q3
        have Q4 := hid q4
        obtain ⟨ty, xx, rfl⟩ := q4.iface
        have L4 := hid (L3.out.trans l3)
        have S3 := hid s3
        clear HM L3 l3 s3 q4
        go_wp2_with fail
        refine (wrong_any S3.out 0 12).mono ?_
        rintro e w7 ⟨v7, h7, rfl, l7, q7, s7⟩
        obtain ⟨ty7, x7, rfl⟩ := q7.iface
        have HE := hid (err_err s7 (Q4.out.mono l7) q7 (by decide) (by simp))
        have L7 := hid (L4.out.trans l7)
        clear l7 q7 s7 S3
        go_wp2_with fail
        refine HE.out.mono ?_
        rintro e w8 ⟨rfl, s8⟩
        have S8 := hid s8
        clear s8 HE
        go_wp2_with fail
        refine (awake10 S8.out).mono ?_
        rintro e w9 ⟨h9, rfl, l9, s9⟩
        have L9 := hid (L7.out.trans l9)
        have S9 := hid s9
        clear l9 s9 S8
        go_wp2_with fail
        go_ret
        exact ⟨rfl, S9.out.archBelow L9.out⟩
      · have i1 : ¬ ((p : Nat) : Int) < 16 := by omega
        go_wp2_with fail
        refine HM.out.mono ?_
        rintro e w6 ⟨vv, h3, rfl, l3, q3, s3⟩
        obtain ⟨q4, _⟩ : ErrIn h3 vv [(tMod, 0), (tFun, 0), (tAt, 0)] 12 ∧ (12 : Int) ≠ 0 := q3
        have Q4 := hid q4
        obtain ⟨ty, xx, rfl⟩ := q4.iface
        have L4 := hid (L3.out.trans l3)
        have S3 := hid s3
        clear HM L3 l3 s3 q4
        go_wp2_with fail
        refine (wrong_any S3.out 0 12).mono ?_
        rintro e w7 ⟨v7, h7, rfl, l7, q7, s7⟩
        obtain ⟨ty7, x7, rfl⟩ := q7.iface
        have HE := hid (err_err s7 (Q4.out.mono l7) q7 (by decide) (by simp))
        have L7 := hid (L4.out.trans l7)
        clear l7 q7 s7 S3
        go_wp2_with fail
        refine HE.out.mono ?_
        rintro e w8 ⟨rfl, s8⟩
        have S8 := hid s8
        clear s8 HE
        go_wp2_with fail
        refine (awake10 S8.out).mono ?_
        rintro e w9 ⟨h9, rfl, l9, s9⟩
        have L9 := hid (L7.out.trans l9)
        have S9 := hid s9
        clear l9 s9 S8
        go_wp2_with fail
        go_ret
        exact ⟨rfl, S9.out.archBelow L9.out⟩
  · go_enter Tryd.func8, Tryd.ntmps8
    go_wp2_with fail
    refine h1.mono ?_
    rintro e w1 ⟨rfl, rfl⟩
    go_wp2_with fail
    refine h2.mono ?_
    rintro e w1 ⟨rfl, rfl⟩
    go_wp2_with fail
    refine h3.mono ?_
    rintro e w1 ⟨rfl, rfl⟩
    go_wp2_with fail
    refine h4.mono ?_
    rintro e w1 ⟨rfl, rfl⟩
    clear h1 h2 h3 h4
    go_wp2_with fail
    obtain ⟨g1, l1, r1, s1⟩ := store_lit (((((Sat.startArch W).alloc' (.cells #[.int .i64 2, .int .i64 0, .int .i64 (p : Nat), .int .i64 (c : Nat), .int .i64 16, .int .i64 0, .int .i64 1, .int .i64 (p : Nat), .int .i64 37, .int .i64 0, .int .i64 (p : Nat), .int .i64 0] 36)).alloc' (.cells #[.int .i64 16, .int .i64 0, .int .i64 1, .int .i64 (p : Nat)] 36)).alloc' (.cells #[.int .i64 (c : Nat), .int .i64 (f : Nat), .int .i64 3] 3)).allocAt (k := W.heap.size + 3) (.cells #[.int .i64 16, .int .i64 0, .int .i64 1, .int .i64 (p : Nat), .int .i64 15, .int .i64 0, .int .i64 0, .int .i64 0] 36) (by simp))
    obtain ⟨g2, l2, r2, s2⟩ := store_lit (s1.allocAt (k := W.heap.size + 4) (.cells #[.int .i64 15, .int .i64 0, .int .i64 0, .int .i64 0] 36) (by simp))
    obtain ⟨g3, l3, r3, s3⟩ := store_lit (s2.allocAt (k := W.heap.size + 5) (.cells #[.string ⟨#[102]⟩, .int .i64 0, .int .i64 0, .slice (some ⟨W.heap.size + 3, 0, none⟩) 2 2, .string ⟨#[103]⟩, .int .i64 (f : Nat), .int .i64 0, .slice (some ⟨W.heap.size + 4, 0, none⟩) 1 1] 40) (by simp))
    have L3 := hid ((l1.trans l2).trans l3)
    have HM := hid (vet_any (fc := 2) (lc := 0) (la := none) (s3.alloc' (.cells #[.string ⟨#[]⟩, .slice none 0 0, .slice (some ⟨W.heap.size + 5, 0, none⟩) 2 2] 25)) (rowsM 1 p c f) (by show 2 ≤ _; omega) (by show 0 ≤ _; omega) ⟨Nat.le_refl 2, by decide⟩ (LIn.nil _ _) (by simp [rowsM, LOk]) (rows_in ((r1.mono l2).mono l3) (r2.mono l3) r3) (rows_fit hp hc hf) rows_nobif)
    have hv0 : vetE (rowsM 1 p c f) = if p < 16 ∧ p + (f : Nat) ≤ 16 then none else err3 0 12 := HV.out
    rw [hv0] at HM
    clear hv0
    clear l1 l2 l3 r1 r2 r3 s1 s2 s3
    by_cases hok : p < 16 ∧ p + (f : Nat) ≤ 16
    · obtain ⟨ho1, ho2⟩ := hok
      rw [if_pos ⟨ho1, ho2⟩] at HM
      have i1 : ((p : Nat) : Int) < 16 := by omega
      have i2 : decide (((p : Nat) : Int) + ((f : Nat) : Int) ≤ 16) = true := decide_eq_true (by omega)
      go_wp2_with fail
      refine HM.out.mono ?_
      rintro e w6 ⟨vv, h3, rfl, l3, q3, s3⟩
      obtain rfl : vv = .nilIface := q3
      have L4 := hid (L3.out.trans l3)
      have S3 := hid s3
      clear HM L3 l3 s3
      go_wp2_with fail
      refine (awake10 S3.out).mono ?_
      rintro e w9 ⟨h9, rfl, l9, s9⟩
      have L9 := hid (L4.out.trans l9)
      have S9 := hid s9
      clear l9 s9 S3
      go_wp2_with fail
      go_ret
      exact ⟨rfl, S9.out.archBelow L9.out⟩
    · rw [if_neg hok] at HM
      by_cases ho1 : p < 16
      · have i1 : ((p : Nat) : Int) < 16 := by omega
        have i2 : decide (((p : Nat) : Int) + ((f : Nat) : Int) ≤ 16) = false := decide_eq_false (by omega)
        go_wp2_with fail
        refine HM.out.mono ?_
        rintro e w6 ⟨vv, h3, rfl, l3, q3, s3⟩
        obtain ⟨q4, _⟩ : ErrIn h3 vv [(tMod, 0), (tFun, 0), (tAt, 0)] 12 ∧ (12 : Int) ≠ 0 := q3
        have Q4 := hid q4
        obtain ⟨ty, xx, rfl⟩ := q4.iface
        have L4 := hid (L3.out.trans l3)
        have S3 := hid s3
        clear HM L3 l3 s3 q4
        go_wp2_with fail
        refine (wrong_any S3.out 0 12).mono ?_
        rintro e w7 ⟨v7, h7, rfl, l7, q7, s7⟩
        obtain ⟨ty7, x7, rfl⟩ := q7.iface
        have HE := hid (err_err s7 (Q4.out.mono l7) q7 (by decide) (by simp))
        have L7 := hid (L4.out.trans l7)
        clear l7 q7 s7 S3
        go_wp2_with fail
        refine HE.out.mono ?_
        rintro e w8 ⟨rfl, s8⟩
        have S8 := hid s8
        clear s8 HE
        go_wp2_with fail
        refine (awake10 S8.out).mono ?_
        rintro e w9 ⟨h9, rfl, l9, s9⟩
        have L9 := hid (L7.out.trans l9)
        have S9 := hid s9
        clear l9 s9 S8
        go_wp2_with fail
        go_ret
        exact ⟨rfl, S9.out.archBelow L9.out⟩
      · have i1 : ¬ ((p : Nat) : Int) < 16 := by omega
        go_wp2_with fail
        refine HM.out.mono ?_
        rintro e w6 ⟨vv, h3, rfl, l3, q3, s3⟩
        obtain ⟨q4, _⟩ : ErrIn h3 vv [(tMod, 0), (tFun, 0), (tAt, 0)] 12 ∧ (12 : Int) ≠ 0 := q3
        have Q4 := hid q4
        obtain ⟨ty, xx, rfl⟩ := q4.iface
        have L4 := hid (L3.out.trans l3)
        have S3 := hid s3
        clear HM L3 l3 s3 q4
        go_wp2_with fail
        refine (wrong_any S3.out 0 12).mono ?_
        rintro e w7 ⟨v7, h7, rfl, l7, q7, s7⟩
        obtain ⟨ty7, x7, rfl⟩ := q7.iface
        have HE := hid (err_err s7 (Q4.out.mono l7) q7 (by decide) (by simp))
        have L7 := hid (L4.out.trans l7)
        clear l7 q7 s7 S3
        go_wp2_with fail
        refine HE.out.mono ?_
        rintro e w8 ⟨rfl, s8⟩
        have S8 := hid s8
        clear s8 HE
        go_wp2_with fail
        refine (awake10 S8.out).mono ?_
        rintro e w9 ⟨h9, rfl, l9, s9⟩
        have L9 := hid (L7.out.trans l9)
        have S9 := hid s9
        clear l9 s9 S8
        go_wp2_with fail
        go_ret
        exact ⟨rfl, S9.out.archBelow L9.out⟩
  · go_enter Tryd.func8, Tryd.ntmps8
    go_wp2_with fail
    refine h1.mono ?_
    rintro e w1 ⟨rfl, rfl⟩
    go_wp2_with fail
    refine h2.mono ?_
    rintro e w1 ⟨rfl, rfl⟩
    go_wp2_with fail
    refine h3.mono ?_
    rintro e w1 ⟨rfl, rfl⟩
    go_wp2_with fail
    refine h4.mono ?_
    rintro e w1 ⟨rfl, rfl⟩
    clear h1 h2 h3 h4
    go_wp2_with fail
    obtain ⟨g1, l1, r1, s1⟩ := store_lit (((((Sat.startArch W).alloc' (.cells #[.int .i64 2, .int .i64 0, .int .i64 (p : Nat), .int .i64 (c : Nat), .int .i64 16, .int .i64 0, .int .i64 1, .int .i64 (p : Nat), .int .i64 37, .int .i64 0, .int .i64 (p : Nat), .int .i64 0] 36)).alloc' (.cells #[.int .i64 37, .int .i64 0, .int .i64 (p : Nat), .int .i64 0] 36)).alloc' (.cells #[.int .i64 (c : Nat), .int .i64 (f : Nat), .int .i64 3] 3)).allocAt (k := W.heap.size + 3) (.cells #[.int .i64 37, .int .i64 0, .int .i64 (p : Nat), .int .i64 0, .int .i64 15, .int .i64 0, .int .i64 0, .int .i64 0] 36) (by simp))
    obtain ⟨g2, l2, r2, s2⟩ := store_lit (s1.allocAt (k := W.heap.size + 4) (.cells #[.int .i64 15, .int .i64 0, .int .i64 0, .int .i64 0] 36) (by simp))
    obtain ⟨g3, l3, r3, s3⟩ := store_lit (s2.allocAt (k := W.heap.size + 5) (.cells #[.string ⟨#[102]⟩, .int .i64 0, .int .i64 0, .slice (some ⟨W.heap.size + 3, 0, none⟩) 2 2, .string ⟨#[103]⟩, .int .i64 (f : Nat), .int .i64 0, .slice (some ⟨W.heap.size + 4, 0, none⟩) 1 1] 40) (by simp))
    have L3 := hid ((l1.trans l2).trans l3)
    have HM := hid (vet_any (fc := 2) (lc := 0) (la := none) (s3.alloc' (.cells #[.string ⟨#[]⟩, .slice none 0 0, .slice (some ⟨W.heap.size + 5, 0, none⟩) 2 2] 25)) (rowsM 2 p c f) (by show 2 ≤ _; omega) (by show 0 ≤ _; omega) ⟨Nat.le_refl 2, by decide⟩ (LIn.nil _ _) (by simp [rowsM, LOk]) (rows_in ((r1.mono l2).mono l3) (r2.mono l3) r3) (rows_fit hp hc hf) rows_nobif)
    have hv0 : vetE (rowsM 2 p c f) = if p < 16 ∧ p + (3 : Nat) ≤ 16 then none else err3 0 12 := HV.out
    rw [hv0] at HM
    clear hv0
    clear l1 l2 l3 r1 r2 r3 s1 s2 s3
    by_cases hok : p < 16 ∧ p + (3 : Nat) ≤ 16
    · obtain ⟨ho1, ho2⟩ := hok
      rw [if_pos ⟨ho1, ho2⟩] at HM
      have i1 : ((p : Nat) : Int) < 16 := by omega
      have i2 : decide (((p : Nat) : Int) + 3 ≤ 16) = true := decide_eq_true (by omega)
      go_wp2_with fail
      refine HM.out.mono ?_
      rintro e w6 ⟨vv, h3, rfl, l3, q3, s3⟩
      obtain rfl : vv = .nilIface := q3
      have L4 := hid (L3.out.trans l3)
      have S3 := hid s3
      clear HM L3 l3 s3
      go_wp2_with fail
      refine (awake10 S3.out).mono ?_
      rintro e w9 ⟨h9, rfl, l9, s9⟩
      have L9 := hid (L4.out.trans l9)
      have S9 := hid s9
      clear l9 s9 S3
      go_wp2_with fail
      go_ret
      exact ⟨rfl, S9.out.archBelow L9.out⟩
    · rw [if_neg hok] at HM
      by_cases ho1 : p < 16
      · have i1 : ((p : Nat) : Int) < 16 := by omega
        have i2 : decide (((p : Nat) : Int) + 3 ≤ 16) = false := decide_eq_false (by omega)
        go_wp2_with fail
        refine HM.out.mono ?_
        rintro e w6 ⟨vv, h3, rfl, l3, q3, s3⟩
        obtain ⟨q4, _⟩ : ErrIn h3 vv [(tMod, 0), (tFun, 0), (tAt, 0)] 12 ∧ (12 : Int) ≠ 0 := q3
        have Q4 := hid q4
        obtain ⟨ty, xx, rfl⟩ := q4.iface
        have L4 := hid (L3.out.trans l3)
        have S3 := hid s3
        clear HM L3 l3 s3 q4
        go_wp2_with fail
        refine (wrong_any S3.out 0 12).mono ?_
        rintro e w7 ⟨v7, h7, rfl, l7, q7, s7⟩
        obtain ⟨ty7, x7, rfl⟩ := q7.iface
        have HE := hid (err_err s7 (Q4.out.mono l7) q7 (by decide) (by simp))
        have L7 := hid (L4.out.trans l7)
        clear l7 q7 s7 S3
        go_wp2_with fail
        refine HE.out.mono ?_
        rintro e w8 ⟨rfl, s8⟩
        have S8 := hid s8
        clear s8 HE
        go_wp2_with fail
        refine (awake10 S8.out).mono ?_
        rintro e w9 ⟨h9, rfl, l9, s9⟩
        have L9 := hid (L7.out.trans l9)
        have S9 := hid s9
        clear l9 s9 S8
        go_wp2_with fail
        go_ret
        exact ⟨rfl, S9.out.archBelow L9.out⟩
      · have i1 : ¬ ((p : Nat) : Int) < 16 := by omega
        go_wp2_with fail
        refine HM.out.mono ?_
        rintro e w6 ⟨vv, h3, rfl, l3, q3, s3⟩
        obtain ⟨q4, _⟩ : ErrIn h3 vv [(tMod, 0), (tFun, 0), (tAt, 0)] 12 ∧ (12 : Int) ≠ 0 := q3
        have Q4 := hid q4
        obtain ⟨ty, xx, rfl⟩ := q4.iface
        have L4 := hid (L3.out.trans l3)
        have S3 := hid s3
        clear HM L3 l3 s3 q4
        go_wp2_with fail
        refine (wrong_any S3.out 0 12).mono ?_
        rintro e w7 ⟨v7, h7, rfl, l7, q7, s7⟩
        obtain ⟨ty7, x7, rfl⟩ := q7.iface
        have HE := hid (err_err s7 (Q4.out.mono l7) q7 (by decide) (by simp))
        have L7 := hid (L4.out.trans l7)
        clear l7 q7 s7 S3
        go_wp2_with fail
        refine HE.out.mono ?_
        rintro e w8 ⟨rfl, s8⟩
        have S8 := hid s8
        clear s8 HE
        go_wp2_with fail
        refine (awake10 S8.out).mono ?_
        rintro e w9 ⟨h9, rfl, l9, s9⟩
        have L9 := hid (L7.out.trans l9)
        have S9 := hid s9
        clear l9 s9 S8
        go_wp2_with fail
        go_ret
        exact ⟨rfl, S9.out.archBelow L9.out⟩
#print axioms rows_walk
end Go.Proofs.YtohdhckafebmhaaDoor
