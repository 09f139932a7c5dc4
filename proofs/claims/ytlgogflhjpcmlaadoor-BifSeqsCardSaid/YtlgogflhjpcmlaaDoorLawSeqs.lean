/-
  BifSeqs: the law's own walk. (Written by wip/gen/gen_lawseqs.py.)
-/
import Derived.Test.YtlgogflhjpcmlaaDoorBifT
namespace Go.Proofs.YtlgogflhjpcmlaaDoor
open Go.RowKit
set_option maxHeartbeats 4000000
set_option maxRecDepth 100000
theorem seqs_walk {W : World} (a n : Int) (hT : TabS (heapOf W)) (fa : fits a) :
    Calls Tryd.prog 10 #[.int .i64 a, .int .i64 n] W fun e w' => e = .returned (.bool true) ∧ Below W.heap.size W w' := by
  have HQ := hid hT
  have S := hid (Sat.startArch W)
  have HL := hid (Le.refl (heapOf W))
  obtain ⟨v, HV⟩ : ∃ v, Hid (a.tmod 1099511627776 = v) := ⟨_, hid rfl⟩
  have V1 : -1099511627776 < v := by have h1 := Int.tmod_lt_of_pos (-a) (b := 1099511627776) (by decide); rw [Int.neg_tmod] at h1; rw [← HV.out]; omega
  have V2 : v < 1099511627776 := by rw [← HV.out]; exact Int.tmod_lt_of_pos _ (by decide)
  obtain ⟨k, HP⟩ : ∃ k, Hid (wrap64 (n % 1010 - 3) = k) := ⟨_, hid rfl⟩
  have hk : -3 ≤ k ∧ k ≤ 1006 := by
    have h1 := Int.emod_nonneg n (b := 1010) (by decide)
    have h2 := Int.emod_lt_of_pos n (b := 1010) (by decide)
    rw [← HP.out]
    unfold wrap64
    omega
  obtain ⟨VK, HVK⟩ : ∃ z, Hid (wrap64 (v + k) = z) := ⟨_, hid rfl⟩
  have hvk : VK = v + k := by rw [← HVK.out]; unfold wrap64; omega
  obtain ⟨Y, HY⟩ : ∃ z, Hid (wrap64 (VK - 1) = z) := ⟨_, hid rfl⟩
  have hy : Y = v + k - 1 := by rw [← HY.out, hvk]; unfold wrap64; omega
  have HYV : Hid (Y = v + k - 1) := hid hy
  have HB1 : Hid (-1125899906842624 ≤ v ∧ v ≤ 1125899906842624) := hid (by omega)
  have HB2 : Hid (-1125899906842624 ≤ Y ∧ Y ≤ 1125899906842624) := hid (by omega)
  clear hT fa V1 V2 hvk hy
  go_enter Tryd.func10, Tryd.ntmps10
  rcases (show 1001 ≤ k ∨ k < 0 ∨ (0 ≤ k ∧ k ≤ 1000) by omega) with hbig | hneg | ⟨hp0, hp1⟩
  · have HBIG := hid hbig
    have HSO : Hid (seqO v Y = none) := hid (by unfold seqO; rw [if_pos (by have := HYV.out; omega)])
    clear hbig
    go_wp2_with fail
    refine (place_any n 1010 _ (by decide) (by decide)).mono ?_
    rintro e _ ⟨rfl, rfl⟩
    have p1 : wrap64 (n % 1010 - 3) = k := HP.out
    have p2 : IntKind.i64.wrap (n % 1010 - 3) = k := (wrapi _).trans HP.out
    have p3 : a.tmod 1099511627776 = v := HV.out
    go_wp2_with fail
    clear p1 p2 p3
    refine (num8_any S.out _).mono ?_
    rintro e wa ⟨rfl, s⟩
    replace S := hid s
    clear s
    have p1 : wrap64 (v + k) = VK := HVK.out
    have p2 : IntKind.i64.wrap (v + k) = VK := (wrapi _).trans HVK.out
    have p3 : wrap64 (VK - 1) = Y := HY.out
    have p4 : IntKind.i64.wrap (VK - 1) = Y := (wrapi _).trans HY.out
    go_wp2_with fail
    clear p1 p2 p3 p4
    refine (num8_any S.out _).mono ?_
    rintro e wb ⟨rfl, s⟩
    replace S := hid s
    clear s
    have SB := hid (S.out.alloc (.cells #[.int .i64 1, .int .i64 (v), .string ⟨#[]⟩, .slice none 0 0, .slice none 0 0, .slice none 0 0, .int .i64 1, .int .i64 (Y), .string ⟨#[]⟩, .slice none 0 0, .slice none 0 0, .slice none 0 0] 35))
    have HA := hid (do_seq HQ.out SB.out v Y (in_N _ _) (in_N _ _) HB1.out HB2.out)
    clear S
    rw [HSO.out] at HA
    go_wp2_with fail
    refine HA.out.mono ?_
    intro e w1 hd
    obtain ⟨ia1, ic1, ra1, rc1, ba1, bc1, h1, rfl, l, s, _⟩ := hd.bad
    have S := hid (s.alloc' (.cells #[.int .i64 0, .int .i64 0, .string ⟨#[]⟩, .slice ia1 0 ic1, .slice ra1 0 rc1, .slice ba1 0 bc1] 35))
    replace HQ := hid (HQ.out.mono l)
    replace HL := hid (HL.out.trans l)
    clear s l SB HA hd
    have d1 : decide (k ≤ 1000) = false := by have := HBIG.out; simp; omega
    have HA := hid (awake8 HQ.out S.out)
    go_wp2_with fail
    refine HA.out.mono ?_
    rintro e w9 ⟨h9, rfl, l9, s9⟩
    go_wp2_with fail
    go_ret
    exact ⟨rfl, s9.archBelow (HL.out.trans l9)⟩
  · have HNEG := hid hneg
    have HK2 : Hid (k ≤ 1000) := hid (by omega)
    obtain ⟨N, HNN⟩ : ∃ N, Hid ((Y - v + 1).toNat = N) := ⟨_, hid rfl⟩
    have HNK : Hid ((N : Int) = 0) := hid (by rw [← HNN.out]; have := HYV.out; omega)
    clear hneg
    have HN : Hid (N ≤ 60000) := hid (by have := HNK.out; have := HK2.out; omega)
    have HSO : Hid (seqO v Y = some (numsT (fun i => v + (i : Int)) N)) := hid (by unfold seqO; rw [if_neg (by have := HYV.out; have := HK2.out; omega), seqL_nums, HNN.out])
    have HFT : Hid (∀ i, i < N → fits (v + (i : Int))) := hid (fun i hi => by have := HB1.out; have := HN.out; unfold fits; omega)
    obtain ⟨s0, hs0, hsum⟩ := sum_range v N
    obtain ⟨Zs, HZS⟩ : ∃ z, Hid (sumF ((List.range N).map fun (i : Nat) => tN (v + (i : Int))) 0 = z) := ⟨_, hid rfl⟩
    have HFZ : Hid (fits Zs) := hid (by rw [← HZS.out, hsum]; exact fits_wrap _)
    have HZ0 : Hid (Zs = 0) := hid (by
      have hN0 : N = 0 := by have := HNK.out; omega
      rw [← HZS.out, hN0]
      rfl)
    clear hs0 hsum
    obtain rfl : Zs = 0 := HZ0.out
    go_wp2_with fail
    refine (place_any n 1010 _ (by decide) (by decide)).mono ?_
    rintro e _ ⟨rfl, rfl⟩
    have p1 : wrap64 (n % 1010 - 3) = k := HP.out
    have p2 : IntKind.i64.wrap (n % 1010 - 3) = k := (wrapi _).trans HP.out
    have p3 : a.tmod 1099511627776 = v := HV.out
    go_wp2_with fail
    clear p1 p2 p3
    refine (num8_any S.out _).mono ?_
    rintro e wa ⟨rfl, s⟩
    replace S := hid s
    clear s
    have p1 : wrap64 (v + k) = VK := HVK.out
    have p2 : IntKind.i64.wrap (v + k) = VK := (wrapi _).trans HVK.out
    have p3 : wrap64 (VK - 1) = Y := HY.out
    have p4 : IntKind.i64.wrap (VK - 1) = Y := (wrapi _).trans HY.out
    go_wp2_with fail
    clear p1 p2 p3 p4
    refine (num8_any S.out _).mono ?_
    rintro e wb ⟨rfl, s⟩
    replace S := hid s
    clear s
    have SB := hid (S.out.alloc (.cells #[.int .i64 1, .int .i64 (v), .string ⟨#[]⟩, .slice none 0 0, .slice none 0 0, .slice none 0 0, .int .i64 1, .int .i64 (Y), .string ⟨#[]⟩, .slice none 0 0, .slice none 0 0, .slice none 0 0] 35))
    have HA := hid (do_seq HQ.out SB.out v Y (in_N _ _) (in_N _ _) HB1.out HB2.out)
    clear S
    rw [show seqO v Y = some (numsT (fun i => v + (i : Int)) N) from HSO.out] at HA
    go_wp2_with fail
    refine HA.out.mono ?_
    rintro e w1 ⟨vs, h1, rfl, l, s, q⟩
    replace q : TIn h1 (numsT (fun i => v + (i : Int)) N) vs := q
    obtain ⟨tt, HTT⟩ : ∃ tt, Hid (numsT (fun i => v + (i : Int)) N = tt) := ⟨_, hid rfl⟩
    rw [HTT.out] at q
    obtain ⟨ja, jc, sa, sc, da, dc, rfl, _⟩ := id q.vals
    unfold tVals
    obtain ⟨xb1, HXB1⟩ : ∃ xb, Hid (w1.heap.size = xb) := ⟨_, hid rfl⟩
    have S := hid (s.allocAt (k := w1.heap.size) (.cells #[.int .i64 tt.k, .int .i64 tt.n, .string tt.nm, .slice ja tt.is.length jc, .slice sa tt.rs.length sc, .slice da tt.bs.length dc] 35) rfl).swap
    rw [HXB1.out] at S
    have HT1 := hid q
    replace HQ := hid (HQ.out.mono l)
    replace HL := hid (HL.out.trans l)
    clear s l q SB HA
    have hx1 := HXB1.out
    have d1 : decide (k ≤ 1000) = true := by have := HK2.out; simpa using this
    have hs1 : (some (numsT (fun i => v + (i : Int)) N)).isSome = true := rfl
    have c0 := S.out.swap.cell 0
    have c1 := S.out.swap.cell 1
    have c2 := S.out.swap.cell 2
    have c3 := S.out.swap.cell 3
    have c4 := S.out.swap.cell 4
    have c5 := S.out.swap.cell 5
    simp only [List.getElem?_toArray, List.getElem?_cons_succ, List.getElem?_cons_zero] at c0 c1 c2 c3 c4 c5
    have SB := hid (S.out.allocAt (k := xb1 + 1) (.cells #[.int .i64 tt.k, .int .i64 tt.n, .string tt.nm, .slice ja tt.is.length jc, .slice sa tt.rs.length sc, .slice da tt.bs.length dc] 35) (by simp [hx1]))
    have HA := hid (do_length HQ.out SB.out (fun i => v + (i : Int)) N (by rw [HTT.out]; exact HT1.out) HN.out HFT.out)
    clear S
    go_wp2_with fail
    clear c0 c1 c2 c3 c4 c5
    refine HA.out.mono ?_
    rintro e w2 ⟨ia2, ic2, ra2, rc2, ba2, bc2, h2, rfl, l, s, _⟩
    obtain ⟨xb2, HXB2⟩ : ∃ xb, Hid (w2.heap.size = xb) := ⟨_, hid rfl⟩
    have S := hid (s.allocAt (k := w2.heap.size) (.cells #[.int .i64 1, .int .i64 ((N : Int)), .string ⟨#[]⟩, .slice ia2 0 ic2, .slice ra2 0 rc2, .slice ba2 0 bc2] 35) rfl).swap
    rw [HXB2.out] at S
    replace HT1 := hid (TIn.mono l _ HT1.out)
    replace HQ := hid (HQ.out.mono l)
    replace HL := hid (HL.out.trans l)
    clear s l SB HA
    have hx2 := HXB2.out
    have c0 := S.out.rot3.cell 0
    have c1 := S.out.rot3.cell 1
    have c2 := S.out.rot3.cell 2
    have c3 := S.out.rot3.cell 3
    have c4 := S.out.rot3.cell 4
    have c5 := S.out.rot3.cell 5
    simp only [List.getElem?_toArray, List.getElem?_cons_succ, List.getElem?_cons_zero] at c0 c1 c2 c3 c4 c5
    have SB := hid (S.out.allocAt (k := xb2 + 1) (.cells #[.int .i64 tt.k, .int .i64 tt.n, .string tt.nm, .slice ja tt.is.length jc, .slice sa tt.rs.length sc, .slice da tt.bs.length dc] 35) (by simp [hx2]))
    have HA := hid (do_sum HQ.out SB.out (fun i => v + (i : Int)) N (by rw [HTT.out]; exact HT1.out) HN.out HFT.out HZS.out HFZ.out)
    clear S
    go_wp2_with fail
    clear c0 c1 c2 c3 c4 c5
    refine HA.out.mono ?_
    rintro e w3 ⟨ia3, ic3, ra3, rc3, ba3, bc3, h3, rfl, l, s, _⟩
    obtain ⟨xb3, HXB3⟩ : ∃ xb, Hid (w3.heap.size = xb) := ⟨_, hid rfl⟩
    have S := hid (s.allocAt (k := w3.heap.size) (.cells #[.int .i64 1, .int .i64 (0), .string ⟨#[]⟩, .slice ia3 0 ic3, .slice ra3 0 rc3, .slice ba3 0 bc3] 35) rfl).swap
    rw [HXB3.out] at S
    replace HT1 := hid (TIn.mono l _ HT1.out)
    replace HQ := hid (HQ.out.mono l)
    replace HL := hid (HL.out.trans l)
    clear s l SB HA
    have hx3 := HXB3.out
    have c2 := S.out.rot3.cell 1
    have c3 := S.out.swap.cell 1
    simp only [List.getElem?_toArray, List.getElem?_cons_succ, List.getElem?_cons_zero] at c2 c3
    have n0 : decide (k < 0) = true := by have := HNEG.out; simpa using this
    have q1 : wrap64 0 = 0 := by decide +kernel
    have q2 : IntKind.i64.wrap 0 = 0 := by decide +kernel
    have q3 : wrap64 (-1) = -1 := by decide +kernel
    have q4 : IntKind.i64.wrap (-1) = -1 := by decide +kernel
    have q5 : (N : Int) = 0 := HNK.out
    have HA := hid (awake8 HQ.out S.out)
    go_wp2_with fail
    refine HA.out.mono ?_
    rintro e w9 ⟨h9, rfl, l9, s9⟩
    go_wp2_with fail
    go_ret
    exact ⟨rfl, s9.archBelow (HL.out.trans l9)⟩
  · have HNEG : Hid (¬ k < 0) := hid (by omega)
    have HK2 : Hid (k ≤ 1000) := hid hp1
    obtain ⟨N, HNN⟩ : ∃ N, Hid ((Y - v + 1).toNat = N) := ⟨_, hid rfl⟩
    have HNK : Hid ((N : Int) = k) := hid (by rw [← HNN.out]; have := HYV.out; omega)
    have HN : Hid (N ≤ 60000) := hid (by have := HNK.out; have := HK2.out; omega)
    have HSO : Hid (seqO v Y = some (numsT (fun i => v + (i : Int)) N)) := hid (by unfold seqO; rw [if_neg (by have := HYV.out; have := HK2.out; omega), seqL_nums, HNN.out])
    have HFT : Hid (∀ i, i < N → fits (v + (i : Int))) := hid (fun i hi => by have := HB1.out; have := HN.out; unfold fits; omega)
    obtain ⟨s0, hs0, hsum⟩ := sum_range v N
    obtain ⟨Zs, HZS⟩ : ∃ z, Hid (sumF ((List.range N).map fun (i : Nat) => tN (v + (i : Int))) 0 = z) := ⟨_, hid rfl⟩
    have HFZ : Hid (fits Zs) := hid (by rw [← HZS.out, hsum]; exact fits_wrap _)
    obtain ⟨A1, HA1⟩ : ∃ z, Hid (wrap64 (k * v) = z) := ⟨_, hid rfl⟩
    obtain ⟨K1, HK1⟩ : ∃ z, Hid (wrap64 (k - 1) = z) := ⟨_, hid rfl⟩
    obtain ⟨A2, HA2⟩ : ∃ z, Hid (wrap64 (k * K1) = z) := ⟨_, hid rfl⟩
    obtain ⟨A3, HA3⟩ : ∃ z, Hid (A2.tdiv 2 = z) := ⟨_, hid rfl⟩
    have hk1 : K1 = k - 1 := by rw [← HK1.out]; unfold wrap64; omega
    have hkk : 0 ≤ k * (k - 1) ∧ k * (k - 1) ≤ 1000000 := by
      by_cases h0 : k = 0
      · subst h0; decide
      · exact ⟨Int.mul_nonneg hp0 (by omega), Int.le_trans (Int.mul_le_mul hp1 (show k - 1 ≤ 1000 by omega) (by omega) (by decide)) (by decide)⟩
    have ha2 : A2 = k * (k - 1) := by rw [← HA2.out, hk1]; generalize k * (k - 1) = q at hkk; unfold wrap64; omega
    have ha3 : A3 = s0 := by
      rw [HNK.out] at hs0
      rw [← HA3.out, ha2, ← hs0, Int.tdiv_eq_ediv_of_nonneg (by omega)]
      omega
    have HA3w : Hid (wrap64 A3 = A3) := hid (by rw [HNK.out] at hs0; rw [ha3]; generalize k * (k - 1) = q at hkk hs0; unfold wrap64; omega)
    have HA4 : Hid (wrap64 (A1 + A3) = Zs) := hid (by
      obtain ⟨q, hq⟩ := w_mod (k * v)
      rw [← HZS.out, hsum, HNK.out, ha3, ← HA1.out, hq]
      exact w_eq (q := q) (by omega))
    clear hs0 hsum hk1 hkk ha2 ha3 hp0 hp1
    go_wp2_with fail
    refine (place_any n 1010 _ (by decide) (by decide)).mono ?_
    rintro e _ ⟨rfl, rfl⟩
    have p1 : wrap64 (n % 1010 - 3) = k := HP.out
    have p2 : IntKind.i64.wrap (n % 1010 - 3) = k := (wrapi _).trans HP.out
    have p3 : a.tmod 1099511627776 = v := HV.out
    go_wp2_with fail
    clear p1 p2 p3
    refine (num8_any S.out _).mono ?_
    rintro e wa ⟨rfl, s⟩
    replace S := hid s
    clear s
    have p1 : wrap64 (v + k) = VK := HVK.out
    have p2 : IntKind.i64.wrap (v + k) = VK := (wrapi _).trans HVK.out
    have p3 : wrap64 (VK - 1) = Y := HY.out
    have p4 : IntKind.i64.wrap (VK - 1) = Y := (wrapi _).trans HY.out
    go_wp2_with fail
    clear p1 p2 p3 p4
    refine (num8_any S.out _).mono ?_
    rintro e wb ⟨rfl, s⟩
    replace S := hid s
    clear s
    have SB := hid (S.out.alloc (.cells #[.int .i64 1, .int .i64 (v), .string ⟨#[]⟩, .slice none 0 0, .slice none 0 0, .slice none 0 0, .int .i64 1, .int .i64 (Y), .string ⟨#[]⟩, .slice none 0 0, .slice none 0 0, .slice none 0 0] 35))
    have HA := hid (do_seq HQ.out SB.out v Y (in_N _ _) (in_N _ _) HB1.out HB2.out)
    clear S
    rw [show seqO v Y = some (numsT (fun i => v + (i : Int)) N) from HSO.out] at HA
    go_wp2_with fail
    refine HA.out.mono ?_
    rintro e w1 ⟨vs, h1, rfl, l, s, q⟩
    replace q : TIn h1 (numsT (fun i => v + (i : Int)) N) vs := q
    obtain ⟨tt, HTT⟩ : ∃ tt, Hid (numsT (fun i => v + (i : Int)) N = tt) := ⟨_, hid rfl⟩
    rw [HTT.out] at q
    obtain ⟨ja, jc, sa, sc, da, dc, rfl, _⟩ := id q.vals
    unfold tVals
    obtain ⟨xb1, HXB1⟩ : ∃ xb, Hid (w1.heap.size = xb) := ⟨_, hid rfl⟩
    have S := hid (s.allocAt (k := w1.heap.size) (.cells #[.int .i64 tt.k, .int .i64 tt.n, .string tt.nm, .slice ja tt.is.length jc, .slice sa tt.rs.length sc, .slice da tt.bs.length dc] 35) rfl).swap
    rw [HXB1.out] at S
    have HT1 := hid q
    replace HQ := hid (HQ.out.mono l)
    replace HL := hid (HL.out.trans l)
    clear s l q SB HA
    have hx1 := HXB1.out
    have d1 : decide (k ≤ 1000) = true := by have := HK2.out; simpa using this
    have hs1 : (some (numsT (fun i => v + (i : Int)) N)).isSome = true := rfl
    have c0 := S.out.swap.cell 0
    have c1 := S.out.swap.cell 1
    have c2 := S.out.swap.cell 2
    have c3 := S.out.swap.cell 3
    have c4 := S.out.swap.cell 4
    have c5 := S.out.swap.cell 5
    simp only [List.getElem?_toArray, List.getElem?_cons_succ, List.getElem?_cons_zero] at c0 c1 c2 c3 c4 c5
    have SB := hid (S.out.allocAt (k := xb1 + 1) (.cells #[.int .i64 tt.k, .int .i64 tt.n, .string tt.nm, .slice ja tt.is.length jc, .slice sa tt.rs.length sc, .slice da tt.bs.length dc] 35) (by simp [hx1]))
    have HA := hid (do_length HQ.out SB.out (fun i => v + (i : Int)) N (by rw [HTT.out]; exact HT1.out) HN.out HFT.out)
    clear S
    go_wp2_with fail
    clear c0 c1 c2 c3 c4 c5
    refine HA.out.mono ?_
    rintro e w2 ⟨ia2, ic2, ra2, rc2, ba2, bc2, h2, rfl, l, s, _⟩
    obtain ⟨xb2, HXB2⟩ : ∃ xb, Hid (w2.heap.size = xb) := ⟨_, hid rfl⟩
    have S := hid (s.allocAt (k := w2.heap.size) (.cells #[.int .i64 1, .int .i64 ((N : Int)), .string ⟨#[]⟩, .slice ia2 0 ic2, .slice ra2 0 rc2, .slice ba2 0 bc2] 35) rfl).swap
    rw [HXB2.out] at S
    replace HT1 := hid (TIn.mono l _ HT1.out)
    replace HQ := hid (HQ.out.mono l)
    replace HL := hid (HL.out.trans l)
    clear s l SB HA
    have hx2 := HXB2.out
    have c0 := S.out.rot3.cell 0
    have c1 := S.out.rot3.cell 1
    have c2 := S.out.rot3.cell 2
    have c3 := S.out.rot3.cell 3
    have c4 := S.out.rot3.cell 4
    have c5 := S.out.rot3.cell 5
    simp only [List.getElem?_toArray, List.getElem?_cons_succ, List.getElem?_cons_zero] at c0 c1 c2 c3 c4 c5
    have SB := hid (S.out.allocAt (k := xb2 + 1) (.cells #[.int .i64 tt.k, .int .i64 tt.n, .string tt.nm, .slice ja tt.is.length jc, .slice sa tt.rs.length sc, .slice da tt.bs.length dc] 35) (by simp [hx2]))
    have HA := hid (do_sum HQ.out SB.out (fun i => v + (i : Int)) N (by rw [HTT.out]; exact HT1.out) HN.out HFT.out HZS.out HFZ.out)
    clear S
    go_wp2_with fail
    clear c0 c1 c2 c3 c4 c5
    refine HA.out.mono ?_
    rintro e w3 ⟨ia3, ic3, ra3, rc3, ba3, bc3, h3, rfl, l, s, _⟩
    obtain ⟨xb3, HXB3⟩ : ∃ xb, Hid (w3.heap.size = xb) := ⟨_, hid rfl⟩
    have S := hid (s.allocAt (k := w3.heap.size) (.cells #[.int .i64 1, .int .i64 (Zs), .string ⟨#[]⟩, .slice ia3 0 ic3, .slice ra3 0 rc3, .slice ba3 0 bc3] 35) rfl).swap
    rw [HXB3.out] at S
    replace HT1 := hid (TIn.mono l _ HT1.out)
    replace HQ := hid (HQ.out.mono l)
    replace HL := hid (HL.out.trans l)
    clear s l SB HA
    have hx3 := HXB3.out
    have c2 := S.out.rot3.cell 1
    have c3 := S.out.swap.cell 1
    simp only [List.getElem?_toArray, List.getElem?_cons_succ, List.getElem?_cons_zero] at c2 c3
    have n0 : decide (k < 0) = false := by have := HNEG.out; simpa using this
    have q5 : (N : Int) = k := HNK.out
    have q1 : wrap64 (k * v) = A1 := HA1.out
    have r1 : IntKind.i64.wrap (k * v) = A1 := (wrapi _).trans HA1.out
    have q2 : wrap64 (k - 1) = K1 := HK1.out
    have r2 : IntKind.i64.wrap (k - 1) = K1 := (wrapi _).trans HK1.out
    have q3 : wrap64 (k * K1) = A2 := HA2.out
    have r3 : IntKind.i64.wrap (k * K1) = A2 := (wrapi _).trans HA2.out
    have q4 : A2.tdiv 2 = A3 := HA3.out
    have q6 : wrap64 A3 = A3 := HA3w.out
    have r6 : IntKind.i64.wrap A3 = A3 := (wrapi _).trans HA3w.out
    have q7 : wrap64 (A1 + A3) = Zs := HA4.out
    have r7 : IntKind.i64.wrap (A1 + A3) = Zs := (wrapi _).trans HA4.out
    have HA := hid (awake8 HQ.out S.out)
    go_wp2_with fail
    refine HA.out.mono ?_
    rintro e w9 ⟨h9, rfl, l9, s9⟩
    go_wp2_with fail
    go_ret
    exact ⟨rfl, s9.archBelow (HL.out.trans l9)⟩
#print axioms seqs_walk
end Go.Proofs.YtlgogflhjpcmlaaDoor
