/-
  BifBits: the law's own walk. (Written by wip/gen/gen_lawbits.py.)
-/
import Derived.Test.YtlgogflhjpcmlaaDoorBifG
import Derived.Laws.Closers25b
namespace Go.Proofs.YtlgogflhjpcmlaaDoor
open Go.RowKit
set_option maxHeartbeats 4000000
set_option maxRecDepth 100000

theorem and_or (a : Nat) : ∀ b, (a &&& b) + (a ||| b) = a + b ∧ (a ||| b) = (a &&& b) + (a ^^^ b) := by
  induction a using Nat.strongRecOn with
  | ind a ih =>
    intro b
    by_cases h0 : a = 0
    · subst h0; simp
    · obtain ⟨i1, i2⟩ := ih (a / 2) (by omega) (b / 2)
      have d1 := @Nat.and_div_two a b
      have d2 := @Nat.or_div_two a b
      have d3 := @Nat.xor_div_two a b
      have m1 := @Nat.and_mod_two_eq_one a b
      have m2 := @Nat.or_mod_two_eq_one a b
      have m3 := @Nat.xor_mod_two_eq_one a b
      rw [← d1, ← d2] at i1
      rw [← d1, ← d2, ← d3] at i2
      omega
theorem ofInt_nat (a : Int) : ((BitVec.ofInt 64 a).toNat : Int) = a % 18446744073709551616 := by
  rw [BitVec.toNat_ofInt]
  have := Int.emod_nonneg a (b := 18446744073709551616) (by decide)
  show ((a % 18446744073709551616).toNat : Int) = _
  omega
theorem wrapi (n : Int) : IntKind.i64.wrap n = wrap64 n := by
  unfold wrap64 IntKind.wrap
  simp [IntKind.bits, IntKind.signed]
  try omega
theorem w_mod (n : Int) : ∃ q, wrap64 n = n + 18446744073709551616 * q := ⟨-((n + 9223372036854775808) / 18446744073709551616), by unfold wrap64; omega⟩
theorem w_eq {x y q : Int} (h : x = y + 18446744073709551616 * q) : wrap64 x = wrap64 y := by subst h; unfold wrap64; omega
theorem bits_sum (a b : Int) : wrap64 (bits BinOp.and IntKind.i64 a b + bits BinOp.or IntKind.i64 a b) = wrap64 (a + b) ∧ wrap64 (bits BinOp.or IntKind.i64 a b - bits BinOp.and IntKind.i64 a b) = bits BinOp.xor IntKind.i64 a b := by
  obtain ⟨h1, h2⟩ := and_or (BitVec.ofInt 64 a).toNat (BitVec.ofInt 64 b).toNat
  have e1 := ofInt_nat a
  have e2 := ofInt_nat b
  have x1 : bits BinOp.and IntKind.i64 a b = wrap64 (((BitVec.ofInt 64 a).toNat &&& (BitVec.ofInt 64 b).toNat : Nat) : Int) := by rw [← BitVec.toNat_and, ← wrapi]; rfl
  have x2 : bits BinOp.or IntKind.i64 a b = wrap64 (((BitVec.ofInt 64 a).toNat ||| (BitVec.ofInt 64 b).toNat : Nat) : Int) := by rw [← BitVec.toNat_or, ← wrapi]; rfl
  have x3 : bits BinOp.xor IntKind.i64 a b = wrap64 (((BitVec.ofInt 64 a).toNat ^^^ (BitVec.ofInt 64 b).toNat : Nat) : Int) := by rw [← BitVec.toNat_xor, ← wrapi]; rfl
  rw [x1, x2, x3]
  generalize (BitVec.ofInt 64 a).toNat = A at *
  generalize (BitVec.ofInt 64 b).toNat = B at *
  generalize (A &&& B) = C at *
  generalize (A ||| B) = D at *
  generalize (A ^^^ B) = E at *
  clear x1 x2 x3
  obtain ⟨q1, w1⟩ := w_mod (C : Int)
  obtain ⟨q2, w2⟩ := w_mod (D : Int)
  rw [w1, w2]
  have d1 := Int.mul_ediv_add_emod a 18446744073709551616
  have d2 := Int.mul_ediv_add_emod b 18446744073709551616
  rw [← e1] at d1
  rw [← e2] at d2
  have h1' : (C : Int) + D = A + B := by omega
  have h2' : (D : Int) = C + E := by omega
  generalize a / 18446744073709551616 = u at d1
  generalize b / 18446744073709551616 = t at d2
  refine ⟨w_eq (q := q1 + q2 - u - t) ?_, w_eq (q := q2 - q1) ?_⟩
  · rw [← d1, ← d2]; clear w1 w2 e1 e2 d1 d2; omega
  · clear w1 w2 e1 e2 d1 d2 h1'; omega
theorem fits_bits (op : BinOp) (a b : Int) : fits (bits op IntKind.i64 a b) := ⟨bits_lo_i64 op a b, bits_hi_i64 op a b⟩
theorem shift_back {v k : Int} (hv : -1048576 < v) (hv2 : v < 1048576) (h0 : 0 ≤ k) (h40 : k < 40) : wrap64 (v * 2 ^ k.toNat) / 2 ^ k.toNat = v := by
  obtain ⟨m, rfl⟩ : ∃ m : Nat, k = m := ⟨k.toNat, by omega⟩
  have hm : (2 : Int) ^ m ≤ 2 ^ 39 := by
    have : (2 : Nat) ^ m ≤ 2 ^ 39 := Nat.pow_le_pow_right (by omega) (by omega)
    exact_mod_cast this
  have hp : (0 : Int) < 2 ^ m := Int.pow_pos (by omega)
  simp only [Int.toNat_natCast]
  generalize hP : (2 : Int) ^ m = P at *
  have b1 : v * P ≤ 1048576 * 549755813888 := by
    have h1 : v * P ≤ 1048576 * P := Int.mul_le_mul_of_nonneg_right (by omega) (by omega)
    have h2 : P ≤ 549755813888 := by simpa using hm
    omega
  have b2 : -(1048576 * 549755813888) ≤ v * P := by
    have h1 : -1048576 * P ≤ v * P := Int.mul_le_mul_of_nonneg_right (by omega) (by omega)
    have h2 : P ≤ 549755813888 := by simpa using hm
    omega
  have e : wrap64 (v * P) = v * P := by unfold wrap64; omega
  rw [e]
  exact Int.mul_ediv_cancel _ (by omega)
section
variable {W w : World} {L : List HP} {h : Nat → Option Obj} {b : Nat}
theorem bdo_bsl (q : TabS h) {x y : Int} (S : Sat W w (blk b (.cells #[.int .i64 1, .int .i64 (x), .string ⟨#[]⟩, .slice none 0 0, .slice none 0 0, .slice none 0 0, .int .i64 1, .int .i64 (y), .string ⟨#[]⟩, .slice none 0 0, .slice none 0 0, .slice none 0 0] 35 (0, 0)) :: arch h :: L)) (fx : fits x) (fy : fits y) (h63 : y > 63) :
    Calls Tryd.prog 18 #[.int .i64 9, .slice (some ⟨b, 0, none⟩) 2 2] w (DoP W L h (9 : Nat) none) := by
  obtain ⟨h1, l1, r1, s1⟩ := store_cells (cs := [.int .i64 1, .int .i64 (x), .string ⟨#[]⟩, .slice none 0 0, .slice none 0 0, .slice none 0 0] ++ [.int .i64 1, .int .i64 (y), .string ⟨#[]⟩, .slice none 0 0, .slice none 0 0, .slice none 0 0]) S
  have hla : LIn h1 [tN x, tN y] (some ⟨b, 0, none⟩) 0 := LIn.of_rd (vss := [[.int .i64 1, .int .i64 (x), .string ⟨#[]⟩, .slice none 0 0, .slice none 0 0, .slice none 0 0], [.int .i64 1, .int .i64 (y), .string ⟨#[]⟩, .slice none 0 0, .slice none 0 0, .slice none 0 0]]) (by simp only [TsIn]; exact ⟨_, _, rfl, in_N _ _, _, _, rfl, in_N _ _, rfl⟩) (by simpa using r1)
  have F := fnk_bsl
  obtain ⟨_, l, k, hk, hl, hm, hm9, hfo, hcf⟩ := F
  refine (do_any (q.mono l1) s1 9 l k hk hl 2 hm hm9 [tN x, tN y] _ 2 hla rfl ?_ ?_ none hfo none (fun t e => by cases e) hcf (fun w h' L cb l s c => reckon_9_bad s (tN x) (tN y) c rfl rfl h63)).mono ?_
  · intro z hx; simp only [List.mem_cons, List.not_mem_nil, or_false] at hx; rcases hx with rfl | rfl; exact (num_N fx).2.1; exact (num_N fy).2.1
  · intro z hx; simp only [List.mem_cons, List.not_mem_nil, or_false] at hx; rcases hx with rfl | rfl; exact (num_N fx).2.2; exact (num_N fy).2.2
  · rintro e w' ⟨t, vs, h', why, e1, l2, x⟩
    exact ⟨t, vs, h', why, e1, l1.trans l2, x⟩
end
theorem bits_walk {W : World} (a b s : Int) (hT : TabS (heapOf W)) (fa : fits a) (fb : fits b) :
    Calls Tryd.prog 11 #[.int .i64 a, .int .i64 b, .int .i64 s] W fun e w' => e = .returned (.bool true) ∧ Below W.heap.size W w' := by
  have HQ := hid hT
  have FA := hid fa
  have FB := hid fb
  have S := hid (Sat.startArch W)
  have HL := hid (Le.refl (heapOf W))
  obtain ⟨X, HX⟩ : ∃ X, Hid (bits BinOp.and IntKind.i64 a b = X) := ⟨_, hid rfl⟩
  obtain ⟨Y, HY⟩ : ∃ X, Hid (bits BinOp.or IntKind.i64 a b = X) := ⟨_, hid rfl⟩
  obtain ⟨Zz, HZ⟩ : ∃ X, Hid (bits BinOp.xor IntKind.i64 a b = X) := ⟨_, hid rfl⟩
  have FX : Hid (fits X) := hid (by rw [← HX.out]; exact fits_bits _ _ _)
  have FY : Hid (fits Y) := hid (by rw [← HY.out]; exact fits_bits _ _ _)
  have FZ : Hid (fits Zz) := hid (by rw [← HZ.out]; exact fits_bits _ _ _)
  obtain ⟨E0, HE0⟩ : ∃ X, Hid (wrap64 (a + b) = X) := ⟨_, hid rfl⟩
  have HE1 : Hid (wrap64 (X + Y) = E0) := hid (by rw [← HX.out, ← HY.out, ← HE0.out]; exact (bits_sum a b).1)
  have HE2 : Hid (wrap64 (Y - X) = Zz) := hid (by rw [← HX.out, ← HY.out, ← HZ.out]; exact (bits_sum a b).2)
  obtain ⟨k, HK⟩ : ∃ k, Hid (s % 40 = k) := ⟨_, hid rfl⟩
  have K0 : Hid (0 ≤ k) := hid (by rw [← HK.out]; exact Int.emod_nonneg _ (by decide))
  have K40 : Hid (k < 40) := hid (by rw [← HK.out]; exact Int.emod_lt_of_pos _ (by decide))
  have K63 : Hid (k ≤ 63) := hid (by have := K40.out; omega)
  obtain ⟨v, HV⟩ : ∃ v, Hid (a.tmod 1048576 = v) := ⟨_, hid rfl⟩
  have V1 : Hid (-1048576 < v) := hid (by have h1 := Int.tmod_lt_of_pos (-a) (b := 1048576) (by decide); rw [Int.neg_tmod] at h1; rw [← HV.out]; omega)
  have V2 : Hid (v < 1048576) := hid (by rw [← HV.out]; exact Int.tmod_lt_of_pos _ (by decide))
  have FV : Hid (fits v) := hid (by have := V1.out; have := V2.out; unfold fits; omega)
  have FK : Hid (fits k) := hid (by have := K0.out; have := K40.out; unfold fits; omega)
  have FK2 : Hid (fits (64 + k)) := hid (by have := K0.out; have := K40.out; unfold fits; omega)
  have HK2 : Hid (64 + k > 63) := hid (by have := K0.out; omega)
  obtain ⟨M, HM⟩ : ∃ m, Hid (wrap64 (v * 2 ^ k.toNat) = m) := ⟨_, hid rfl⟩
  have FM : Hid (fits M) := hid (by rw [← HM.out]; exact fits_wrap _)
  have HM2 : Hid (M / 2 ^ k.toNat = v) := hid (by rw [← HM.out]; exact shift_back V1.out V2.out K0.out K40.out)
  clear hT fa fb
  go_enter Tryd.func11, Tryd.ntmps11
  go_wp2_with fail
  refine (num8_any S.out _).mono ?_
  rintro e wn1 ⟨rfl, s⟩
  replace S := hid s
  clear s
  go_wp2_with fail
  refine (num8_any S.out _).mono ?_
  rintro e wn2 ⟨rfl, s⟩
  replace S := hid s
  clear s
  have SB := hid (S.out.alloc (.cells #[.int .i64 1, .int .i64 (a), .string ⟨#[]⟩, .slice none 0 0, .slice none 0 0, .slice none 0 0, .int .i64 1, .int .i64 (b), .string ⟨#[]⟩, .slice none 0 0, .slice none 0 0, .slice none 0 0] 35))
  have HA := hid (do_band HQ.out SB.out (a) (b) (in_N _ _) (in_N _ _) FA.out FB.out  (z := X) HX.out FX.out)
  clear S
  go_wp2_with fail
  refine HA.out.mono ?_
  rintro e w3 ⟨ia3, ic3, ra3, rc3, ba3, bc3, h3, rfl, l, s, q⟩
  obtain ⟨xb3, HXB3⟩ : ∃ xb, Hid (w3.heap.size = xb) := ⟨_, hid rfl⟩
  have S := hid (s.allocAt (k := w3.heap.size) (.cells #[.int .i64 1, .int .i64 (X), .string ⟨#[]⟩, .slice ia3 0 ic3, .slice ra3 0 rc3, .slice ba3 0 bc3] 35) rfl).swap
  rw [HXB3.out] at S
  replace HQ := hid (HQ.out.mono l)
  replace HL := hid (HL.out.trans l)
  have HR3 := hid q
  clear s l q SB HA
  go_wp2_with fail
  refine (num8_any S.out _).mono ?_
  rintro e wn4 ⟨rfl, s⟩
  replace S := hid s
  clear s
  rw [HXB3.out]
  go_wp2_with fail
  refine (num8_any S.out _).mono ?_
  rintro e wn5 ⟨rfl, s⟩
  replace S := hid s
  clear s
  have SB := hid (S.out.alloc (.cells #[.int .i64 1, .int .i64 (a), .string ⟨#[]⟩, .slice none 0 0, .slice none 0 0, .slice none 0 0, .int .i64 1, .int .i64 (b), .string ⟨#[]⟩, .slice none 0 0, .slice none 0 0, .slice none 0 0] 35))
  have HA := hid (do_bor HQ.out SB.out (a) (b) (in_N _ _) (in_N _ _) FA.out FB.out  (z := Y) HY.out FY.out)
  clear S
  go_wp2_with fail
  refine HA.out.mono ?_
  rintro e w6 ⟨ia6, ic6, ra6, rc6, ba6, bc6, h6, rfl, l, s, q⟩
  obtain ⟨xb6, HXB6⟩ : ∃ xb, Hid (w6.heap.size = xb) := ⟨_, hid rfl⟩
  have S := hid (s.allocAt (k := w6.heap.size) (.cells #[.int .i64 1, .int .i64 (Y), .string ⟨#[]⟩, .slice ia6 0 ic6, .slice ra6 0 rc6, .slice ba6 0 bc6] 35) rfl).swap
  rw [HXB6.out] at S
  replace HQ := hid (HQ.out.mono l)
  replace HL := hid (HL.out.trans l)
  have HR6 := hid q
  replace HR3 := hid (TIn.mono l _ HR3.out)
  clear s l q SB HA
  go_wp2_with fail
  refine (num8_any S.out _).mono ?_
  rintro e wn7 ⟨rfl, s⟩
  replace S := hid s
  clear s
  rw [HXB6.out]
  go_wp2_with fail
  refine (num8_any S.out _).mono ?_
  rintro e wn8 ⟨rfl, s⟩
  replace S := hid s
  clear s
  have SB := hid (S.out.alloc (.cells #[.int .i64 1, .int .i64 (a), .string ⟨#[]⟩, .slice none 0 0, .slice none 0 0, .slice none 0 0, .int .i64 1, .int .i64 (b), .string ⟨#[]⟩, .slice none 0 0, .slice none 0 0, .slice none 0 0] 35))
  have HA := hid (do_bxor HQ.out SB.out (a) (b) (in_N _ _) (in_N _ _) FA.out FB.out  (z := Zz) HZ.out FZ.out)
  clear S
  go_wp2_with fail
  refine HA.out.mono ?_
  rintro e w9 ⟨ia9, ic9, ra9, rc9, ba9, bc9, h9, rfl, l, s, q⟩
  obtain ⟨xb9, HXB9⟩ : ∃ xb, Hid (w9.heap.size = xb) := ⟨_, hid rfl⟩
  have S := hid (s.allocAt (k := w9.heap.size) (.cells #[.int .i64 1, .int .i64 (Zz), .string ⟨#[]⟩, .slice ia9 0 ic9, .slice ra9 0 rc9, .slice ba9 0 bc9] 35) rfl).swap
  rw [HXB9.out] at S
  replace HQ := hid (HQ.out.mono l)
  replace HL := hid (HL.out.trans l)
  have HR9 := hid q
  replace HR3 := hid (TIn.mono l _ HR3.out)
  replace HR6 := hid (TIn.mono l _ HR6.out)
  clear s l q SB HA
  have c31 := S.out.rot4.cell 1
  simp only [List.getElem?_toArray, List.getElem?_cons_succ, List.getElem?_cons_zero] at c31
  have c61 := S.out.rot3.cell 1
  simp only [List.getElem?_toArray, List.getElem?_cons_succ, List.getElem?_cons_zero] at c61
  have c91 := S.out.swap.cell 1
  simp only [List.getElem?_toArray, List.getElem?_cons_succ, List.getElem?_cons_zero] at c91
  have hx := HXB9.out
  have e0 : wrap64 (a + b) = E0 := HE0.out
  have e1 : wrap64 (X + Y) = E0 := HE1.out
  have e2 : wrap64 (Y - X) = Zz := HE2.out
  have e3 : IntKind.i64.wrap (a + b) = E0 := (wrapi _).trans HE0.out
  have e4 : IntKind.i64.wrap (X + Y) = E0 := (wrapi _).trans HE1.out
  have e5 : IntKind.i64.wrap (Y - X) = Zz := (wrapi _).trans HE2.out
  go_wp2_with fail
  clear e0 e1 e2 e3 e4 e5 hx c31 c61 c91
  refine (place_any s 40 _ (by decide) (by decide)).mono ?_
  rintro e _ ⟨rfl, rfl⟩
  rw [HK.out]
  have hv : a.tmod 1048576 = v := HV.out
  go_wp2_with fail
  clear hv
  try rw [HXB9.out]
  refine (num8_any S.out _).mono ?_
  rintro e wv ⟨rfl, s⟩
  replace S := hid s
  clear s
  go_wp2_with fail
  refine (num8_any S.out _).mono ?_
  rintro e wn10 ⟨rfl, s⟩
  replace S := hid s
  clear s
  have SB := hid (S.out.alloc (.cells #[.int .i64 1, .int .i64 (v), .string ⟨#[]⟩, .slice none 0 0, .slice none 0 0, .slice none 0 0, .int .i64 1, .int .i64 (k), .string ⟨#[]⟩, .slice none 0 0, .slice none 0 0, .slice none 0 0] 35))
  have HA := hid (do_bsl HQ.out SB.out (v) (k) (in_N _ _) (in_N _ _) FV.out FK.out K0.out K63.out (z := M) HM.out FM.out)
  clear S
  go_wp2_with fail
  refine HA.out.mono ?_
  rintro e w11 ⟨ia11, ic11, ra11, rc11, ba11, bc11, h11, rfl, l, s, q⟩
  obtain ⟨xb11, HXB11⟩ : ∃ xb, Hid (w11.heap.size = xb) := ⟨_, hid rfl⟩
  have S := hid (s.allocAt (k := w11.heap.size) (.cells #[.int .i64 1, .int .i64 (M), .string ⟨#[]⟩, .slice ia11 0 ic11, .slice ra11 0 rc11, .slice ba11 0 bc11] 35) rfl).swap
  rw [HXB11.out] at S
  replace HQ := hid (HQ.out.mono l)
  replace HL := hid (HL.out.trans l)
  have HR11 := hid q
  replace HR3 := hid (TIn.mono l _ HR3.out)
  replace HR6 := hid (TIn.mono l _ HR6.out)
  replace HR9 := hid (TIn.mono l _ HR9.out)
  clear s l q SB HA
  go_upto_region 9 with fail
  rw [HXB11.out]
  obtain ⟨ws, HWS⟩ : ∃ ws, Hid (w11.alloc (.cells #[.int .i64 1, .int .i64 (M), .string ⟨#[]⟩, .slice ia11 0 ic11, .slice ra11 0 rc11, .slice ba11 0 bc11] 35) = ws) := ⟨_, hid rfl⟩
  rw [HWS.out] at S ⊢
  obtain ⟨hh, HHH⟩ : ∃ hh, Hid (h11 = hh) := ⟨_, hid rfl⟩
  rw [HHH.out] at S HQ HL HR3 HR6 HR9 HR11
  go_cut [16, 10] from 91 to 98 (fun pv qv wd => ∃ (yb : Nat) (ia12 : Option Addr) (ic12 : Nat) (ra12 : Option Addr) (rc12 : Nat) (ba12 : Option Addr) (bc12 : Nat) (h' : Nat → Option Obj), pv = .pointer (some ⟨yb, 0, none⟩) ∧ qv = .bool true ∧ Hid (Le hh h') ∧ Hid (TIn h' (tN (v)) [.int .i64 1, .int .i64 (v), .string ⟨#[]⟩, .slice ia12 0 ic12, .slice ra12 0 rc12, .slice ba12 0 bc12]) ∧ Hid (Sat W wd (arch h' :: blk yb (.cells #[.int .i64 1, .int .i64 (v), .string ⟨#[]⟩, .slice ia12 0 ic12, .slice ra12 0 rc12, .slice ba12 0 bc12] 35 (0, 0)) :: blk xb11 (.cells #[.int .i64 1, .int .i64 (M), .string ⟨#[]⟩, .slice ia11 0 ic11, .slice ra11 0 rc11, .slice ba11 0 bc11] 35 (0, 0)) :: blk xb9 (.cells #[.int .i64 1, .int .i64 (Zz), .string ⟨#[]⟩, .slice ia9 0 ic9, .slice ra9 0 rc9, .slice ba9 0 bc9] 35 (0, 0)) :: blk xb6 (.cells #[.int .i64 1, .int .i64 (Y), .string ⟨#[]⟩, .slice ia6 0 ic6, .slice ra6 0 rc6, .slice ba6 0 bc6] 35 (0, 0)) :: blk xb3 (.cells #[.int .i64 1, .int .i64 (X), .string ⟨#[]⟩, .slice ia3 0 ic3, .slice ra3 0 rc3, .slice ba3 0 bc3] 35 (0, 0)) :: [])))
  case first =>
    refine wp_region_noPanic ?_
    have hSw := cells6 S.out.drew.swap
    refine wp_region_L (S := fun w' => World.cell? w' ⟨xb11, 0, none⟩ = some (.int .i64 1) ∧ World.cell? w' ⟨xb11, 1, none⟩ = some (.int .i64 (M)) ∧ World.cell? w' ⟨xb11, 2, none⟩ = some (.string ⟨#[]⟩) ∧ World.cell? w' ⟨xb11, 3, none⟩ = some (.slice ia11 0 ic11) ∧ World.cell? w' ⟨xb11, 4, none⟩ = some (.slice ra11 0 rc11) ∧ World.cell? w' ⟨xb11, 5, none⟩ = some (.slice ba11 0 bc11)) 3 (by kernel_rfl) ?_
    refine wpAnyL_pure (i := 1) (d := 93) (v := ?_) rfl (by kernel_rfl) (by kernel_rfl) (by kernel_rfl) (by kernel_rfl) (by decide) (fun _ _ _ h => h) (Or.inl ⟨by rfl, ?_⟩) (fun _ => hSw) ?_
    rotate_left
    · intro w _; go_simp; all_goals with_reducible rfl
    try simp only [Act.put, List.setIfInBounds_toArray, List.set_cons_zero, List.set_cons_succ]
    refine wpAnyL_load (i := 0) (d := 92) (v := ?_) rfl (by kernel_rfl) (by kernel_rfl) (by kernel_rfl) (by kernel_rfl) (by decide) (by kernel_rfl) (by kernel_rfl) (fun _ _ _ h => h) (Or.inl ⟨by rfl, ?_⟩) hSw ?_
    rotate_left
    · intro w hSw; (try dsimp only at hSw); go_simp; all_goals with_reducible rfl
    try simp only [Act.put, List.setIfInBounds_toArray, List.set_cons_zero, List.set_cons_succ]
    have SS := hid S.out.drew
    refine wpAnyL_ready (rs := [2, 8]) (by kernel_rfl) (by simp) ?_
    refine AllL.cons (o := _) rfl (fun K hK => ?_) (AllL.cons (o := _) rfl (fun K hK => ?_) AllL.nil)
    · skip
      go_simp
      go_at_call 21
      with_reducible refine (num8_any SS.out _).mono ?_
      rintro e wn ⟨rfl, s⟩
      replace SS := hid s
      clear s
      replace hSw := cells6 SS.out.swap
      refine hK.out _ _ (fun _ => hSw) ?_
      clear hK K
      try simp only [Act.put, List.setIfInBounds_toArray, List.set_cons_zero, List.set_cons_succ]
      refine wpAnyL_ready (rs := [3, 8]) (by kernel_rfl) (by simp) ?_
      refine AllL.cons (o := _) rfl (fun K hK => ?_) (AllL.cons (o := _) rfl (fun K hK => ?_) AllL.nil)
      · skip
        go_simp
        replace SS := hid (SS.out.allocAt (k := wn.heap.size) (.cells #[.int .i64 1, .int .i64 (M), .string ⟨#[]⟩, .slice ia11 0 ic11, .slice ra11 0 rc11, .slice ba11 0 bc11, .int .i64 1, .int .i64 (k), .string ⟨#[]⟩, .slice none 0 0, .slice none 0 0, .slice none 0 0] 35) (by simp))
        clear hSw
        refine hK.out _ _ (fun hv => absurd hv (by decide +kernel)) ?_
        clear hK K
        try simp only [Act.put, List.setIfInBounds_toArray, List.set_cons_zero, List.set_cons_succ]
        refine wpAnyL_ready (rs := [4, 8]) (by kernel_rfl) (by simp) ?_
        refine AllL.cons (o := _) rfl (fun K hK => ?_) (AllL.cons (o := _) rfl (fun K hK => ?_) AllL.nil)
        · skip
          go_simp
          go_at_call 23
          refine (do_bsr HQ.out SS.out (M) (k) HR11.out (in_N _ _) FM.out FK.out K0.out K63.out (z := v) HM2.out FV.out).mono ?_
          rintro e wd ⟨ia12, ic12, ra12, rc12, ba12, bc12, h3, rfl, l, s, q⟩
          replace SS := hid s
          have LL := hid l
          have HR := hid q
          clear s l q
          refine hK.out _ _ (fun hv => absurd hv (by decide +kernel)) ?_
          clear hK K
          try simp only [Act.put, List.setIfInBounds_toArray, List.set_cons_zero, List.set_cons_succ]
          refine wpAnyL_pure (i := 5) (d := 91) (v := ?_) rfl (by kernel_rfl) (by kernel_rfl) (by kernel_rfl) (by kernel_rfl) (by decide) (fun _ _ _ h => h) (Or.inl ⟨by rfl, ?_⟩) (fun hv => absurd hv (by decide +kernel)) ?_
          rotate_left
          · intro w _; go_simp; all_goals with_reducible rfl
          try simp only [Act.put, List.setIfInBounds_toArray, List.set_cons_zero, List.set_cons_succ]
          refine wpAnyL_pure (i := 6) (d := 97) (v := ?_) rfl (by kernel_rfl) (by kernel_rfl) (by kernel_rfl) (by kernel_rfl) (by decide) (fun _ _ _ h => h) (Or.inl ⟨by rfl, ?_⟩) (fun hv => absurd hv (by decide +kernel)) ?_
          rotate_left
          · intro w _; go_simp; all_goals with_reducible rfl
          try simp only [Act.put, List.setIfInBounds_toArray, List.set_cons_zero, List.set_cons_succ]
          refine wpAnyL_pure (i := 7) (d := 98) (v := ?_) rfl (by kernel_rfl) (by kernel_rfl) (by kernel_rfl) (by kernel_rfl) (by decide) (fun _ _ _ h => h) (Or.inl ⟨by rfl, ?_⟩) (fun hv => absurd hv (by decide +kernel)) ?_
          rotate_left
          · intro w _; go_simp; all_goals with_reducible rfl
          try simp only [Act.put, List.setIfInBounds_toArray, List.set_cons_zero, List.set_cons_succ]
          refine wpAnyL_ready (rs := [8]) (by kernel_rfl) (by simp) ?_
          refine AllL.cons (o := _) rfl (fun K hK => ?_) AllL.nil
          have S0 := SS
          go_simp
          replace SS := hid (SS.out.allocAt (k := wd.heap.size) (.cells #[.int .i64 0, .int .i64 0, .string ⟨#[]⟩, .slice none 0 0, .slice none 0 0, .slice none 0 0] 35) (by simp)).swap
          refine hK.out _ _ (fun hv => absurd hv (by decide +kernel)) ?_
          clear hK K
          try simp only [Act.put, List.setIfInBounds_toArray, List.set_cons_zero, List.set_cons_succ]
          refine wpAnyL_ready (rs := [9]) (by kernel_rfl) (by simp) ?_
          refine AllL.cons (o := _) rfl (fun K hK => ?_) AllL.nil
          have z0 := SS.out.swap.cell 0
          have f0 := SS.out.swap.free 0
          have z1 := SS.out.swap.cell 1
          have f1 := SS.out.swap.free 1
          have z2 := SS.out.swap.cell 2
          have f2 := SS.out.swap.free 2
          have z3 := SS.out.swap.cell 3
          have f3 := SS.out.swap.free 3
          have z4 := SS.out.swap.cell 4
          have f4 := SS.out.swap.free 4
          have z5 := SS.out.swap.cell 5
          have f5 := SS.out.swap.free 5
          simp only [List.getElem?_toArray, List.getElem?_cons_succ, List.getElem?_cons_zero] at z0 z1 z2 z3 z4 z5
          go_simp
          refine hK.out _ _ (fun hv => absurd hv (by decide +kernel)) ?_
          clear hK K
          try simp only [Act.put, List.setIfInBounds_toArray, List.set_cons_zero, List.set_cons_succ]
          refine wpAnyL_ready (rs := [10]) (by kernel_rfl) (by simp) ?_
          refine AllL.cons (o := _) rfl (fun K hK => ?_) AllL.nil
          go_simp
          refine hK.out _ _ (fun hv => absurd hv (by decide +kernel)) ?_
          clear hK K
          try simp only [Act.put, List.setIfInBounds_toArray, List.set_cons_zero, List.set_cons_succ]
          replace SS := hid (S0.out.allocAt (k := wd.heap.size) (.cells #[.int .i64 1, .int .i64 (v), .string ⟨#[]⟩, .slice ia12 0 ic12, .slice ra12 0 rc12, .slice ba12 0 bc12] 35) (by simp)).swap
          clear z0 z1 z2 z3 z4 z5 f0 f1 f2 f3 f4 f5
          refine wpAnyL_done (by kernel_rfl) ?_ _
          refine NoPanic.normal ?_
          go_wp2_with fail
          go_meet
          exact ⟨_, ia12, ic12, ra12, rc12, ba12, bc12, h3, rfl, rfl, LL, HR, SS⟩
        · skip
          go_simp
          replace SS := hid (SS.out.allocAt (k := wn.heap.size + 1) (.cells #[.int .i64 0, .int .i64 0, .string ⟨#[]⟩, .slice none 0 0, .slice none 0 0, .slice none 0 0] 35) (by simp)).unrot3
          refine hK.out _ _ (fun hv => absurd hv (by decide +kernel)) ?_
          clear hK K
          try simp only [Act.put, List.setIfInBounds_toArray, List.set_cons_zero, List.set_cons_succ]
          refine wpAnyL_ready (rs := [4]) (by kernel_rfl) (by simp) ?_
          refine AllL.cons (o := _) rfl (fun K hK => ?_) AllL.nil
          go_simp
          go_at_call 23
          refine (do_bsr HQ.out SS.out (M) (k) HR11.out (in_N _ _) FM.out FK.out K0.out K63.out (z := v) HM2.out FV.out).mono ?_
          rintro e wd ⟨ia12, ic12, ra12, rc12, ba12, bc12, h3, rfl, l, s, q⟩
          replace SS := hid s
          have LL := hid l
          have HR := hid q
          clear s l q
          refine hK.out _ _ (fun hv => absurd hv (by decide +kernel)) ?_
          clear hK K
          try simp only [Act.put, List.setIfInBounds_toArray, List.set_cons_zero, List.set_cons_succ]
          refine wpAnyL_pure (i := 5) (d := 91) (v := ?_) rfl (by kernel_rfl) (by kernel_rfl) (by kernel_rfl) (by kernel_rfl) (by decide) (fun _ _ _ h => h) (Or.inl ⟨by rfl, ?_⟩) (fun hv => absurd hv (by decide +kernel)) ?_
          rotate_left
          · intro w _; go_simp; all_goals with_reducible rfl
          try simp only [Act.put, List.setIfInBounds_toArray, List.set_cons_zero, List.set_cons_succ]
          refine wpAnyL_pure (i := 6) (d := 97) (v := ?_) rfl (by kernel_rfl) (by kernel_rfl) (by kernel_rfl) (by kernel_rfl) (by decide) (fun _ _ _ h => h) (Or.inl ⟨by rfl, ?_⟩) (fun hv => absurd hv (by decide +kernel)) ?_
          rotate_left
          · intro w _; go_simp; all_goals with_reducible rfl
          try simp only [Act.put, List.setIfInBounds_toArray, List.set_cons_zero, List.set_cons_succ]
          refine wpAnyL_pure (i := 7) (d := 98) (v := ?_) rfl (by kernel_rfl) (by kernel_rfl) (by kernel_rfl) (by kernel_rfl) (by decide) (fun _ _ _ h => h) (Or.inl ⟨by rfl, ?_⟩) (fun hv => absurd hv (by decide +kernel)) ?_
          rotate_left
          · intro w _; go_simp; all_goals with_reducible rfl
          try simp only [Act.put, List.setIfInBounds_toArray, List.set_cons_zero, List.set_cons_succ]
          refine wpAnyL_ready (rs := [9]) (by kernel_rfl) (by simp) ?_
          refine AllL.cons (o := _) rfl (fun K hK => ?_) AllL.nil
          have z0 := SS.out.swap.cell 0
          have f0 := SS.out.swap.free 0
          have z1 := SS.out.swap.cell 1
          have f1 := SS.out.swap.free 1
          have z2 := SS.out.swap.cell 2
          have f2 := SS.out.swap.free 2
          have z3 := SS.out.swap.cell 3
          have f3 := SS.out.swap.free 3
          have z4 := SS.out.swap.cell 4
          have f4 := SS.out.swap.free 4
          have z5 := SS.out.swap.cell 5
          have f5 := SS.out.swap.free 5
          simp only [List.getElem?_toArray, List.getElem?_cons_succ, List.getElem?_cons_zero] at z0 z1 z2 z3 z4 z5
          go_simp
          refine hK.out _ _ (fun hv => absurd hv (by decide +kernel)) ?_
          clear hK K
          try simp only [Act.put, List.setIfInBounds_toArray, List.set_cons_zero, List.set_cons_succ]
          refine wpAnyL_ready (rs := [10]) (by kernel_rfl) (by simp) ?_
          refine AllL.cons (o := _) rfl (fun K hK => ?_) AllL.nil
          go_simp
          refine hK.out _ _ (fun hv => absurd hv (by decide +kernel)) ?_
          clear hK K
          try simp only [Act.put, List.setIfInBounds_toArray, List.set_cons_zero, List.set_cons_succ]
          replace SS := hid ((((((SS.out.swap.set 0 (.int .i64 1)).set 1 (.int .i64 (v))).set 2 (.string ⟨#[]⟩)).set 3 (.slice ia12 0 ic12)).set 4 (.slice ra12 0 rc12)).set 5 (.slice ba12 0 bc12)).swap
          clear z0 z1 z2 z3 z4 z5 f0 f1 f2 f3 f4 f5
          refine wpAnyL_done (by kernel_rfl) ?_ _
          refine NoPanic.normal ?_
          go_wp2_with fail
          go_meet
          exact ⟨_, ia12, ic12, ra12, rc12, ba12, bc12, h3, rfl, rfl, LL, HR, SS⟩
      · skip
        go_simp
        replace SS := hid (SS.out.allocAt (k := wn.heap.size) (.cells #[.int .i64 0, .int .i64 0, .string ⟨#[]⟩, .slice none 0 0, .slice none 0 0, .slice none 0 0] 35) (by simp)).swap
        replace hSw := cells6 SS.out.rot3
        refine hK.out _ _ (fun _ => hSw) ?_
        clear hK K
        try simp only [Act.put, List.setIfInBounds_toArray, List.set_cons_zero, List.set_cons_succ]
        refine wpAnyL_ready (rs := [3]) (by kernel_rfl) (by simp) ?_
        refine AllL.cons (o := _) rfl (fun K hK => ?_) AllL.nil
        go_simp
        replace SS := hid (SS.out.allocAt (k := wn.heap.size + 1) (.cells #[.int .i64 1, .int .i64 (M), .string ⟨#[]⟩, .slice ia11 0 ic11, .slice ra11 0 rc11, .slice ba11 0 bc11, .int .i64 1, .int .i64 (k), .string ⟨#[]⟩, .slice none 0 0, .slice none 0 0, .slice none 0 0] 35) (by simp))
        clear hSw
        refine hK.out _ _ (fun hv => absurd hv (by decide +kernel)) ?_
        clear hK K
        try simp only [Act.put, List.setIfInBounds_toArray, List.set_cons_zero, List.set_cons_succ]
        refine wpAnyL_ready (rs := [4]) (by kernel_rfl) (by simp) ?_
        refine AllL.cons (o := _) rfl (fun K hK => ?_) AllL.nil
        go_simp
        go_at_call 23
        refine (do_bsr HQ.out SS.out (M) (k) HR11.out (in_N _ _) FM.out FK.out K0.out K63.out (z := v) HM2.out FV.out).mono ?_
        rintro e wd ⟨ia12, ic12, ra12, rc12, ba12, bc12, h3, rfl, l, s, q⟩
        replace SS := hid s
        have LL := hid l
        have HR := hid q
        clear s l q
        refine hK.out _ _ (fun hv => absurd hv (by decide +kernel)) ?_
        clear hK K
        try simp only [Act.put, List.setIfInBounds_toArray, List.set_cons_zero, List.set_cons_succ]
        refine wpAnyL_pure (i := 5) (d := 91) (v := ?_) rfl (by kernel_rfl) (by kernel_rfl) (by kernel_rfl) (by kernel_rfl) (by decide) (fun _ _ _ h => h) (Or.inl ⟨by rfl, ?_⟩) (fun hv => absurd hv (by decide +kernel)) ?_
        rotate_left
        · intro w _; go_simp; all_goals with_reducible rfl
        try simp only [Act.put, List.setIfInBounds_toArray, List.set_cons_zero, List.set_cons_succ]
        refine wpAnyL_pure (i := 6) (d := 97) (v := ?_) rfl (by kernel_rfl) (by kernel_rfl) (by kernel_rfl) (by kernel_rfl) (by decide) (fun _ _ _ h => h) (Or.inl ⟨by rfl, ?_⟩) (fun hv => absurd hv (by decide +kernel)) ?_
        rotate_left
        · intro w _; go_simp; all_goals with_reducible rfl
        try simp only [Act.put, List.setIfInBounds_toArray, List.set_cons_zero, List.set_cons_succ]
        refine wpAnyL_pure (i := 7) (d := 98) (v := ?_) rfl (by kernel_rfl) (by kernel_rfl) (by kernel_rfl) (by kernel_rfl) (by decide) (fun _ _ _ h => h) (Or.inl ⟨by rfl, ?_⟩) (fun hv => absurd hv (by decide +kernel)) ?_
        rotate_left
        · intro w _; go_simp; all_goals with_reducible rfl
        try simp only [Act.put, List.setIfInBounds_toArray, List.set_cons_zero, List.set_cons_succ]
        refine wpAnyL_ready (rs := [9]) (by kernel_rfl) (by simp) ?_
        refine AllL.cons (o := _) rfl (fun K hK => ?_) AllL.nil
        have z0 := SS.out.swap.cell 0
        have f0 := SS.out.swap.free 0
        have z1 := SS.out.swap.cell 1
        have f1 := SS.out.swap.free 1
        have z2 := SS.out.swap.cell 2
        have f2 := SS.out.swap.free 2
        have z3 := SS.out.swap.cell 3
        have f3 := SS.out.swap.free 3
        have z4 := SS.out.swap.cell 4
        have f4 := SS.out.swap.free 4
        have z5 := SS.out.swap.cell 5
        have f5 := SS.out.swap.free 5
        simp only [List.getElem?_toArray, List.getElem?_cons_succ, List.getElem?_cons_zero] at z0 z1 z2 z3 z4 z5
        go_simp
        refine hK.out _ _ (fun hv => absurd hv (by decide +kernel)) ?_
        clear hK K
        try simp only [Act.put, List.setIfInBounds_toArray, List.set_cons_zero, List.set_cons_succ]
        refine wpAnyL_ready (rs := [10]) (by kernel_rfl) (by simp) ?_
        refine AllL.cons (o := _) rfl (fun K hK => ?_) AllL.nil
        go_simp
        refine hK.out _ _ (fun hv => absurd hv (by decide +kernel)) ?_
        clear hK K
        try simp only [Act.put, List.setIfInBounds_toArray, List.set_cons_zero, List.set_cons_succ]
        replace SS := hid ((((((SS.out.swap.set 0 (.int .i64 1)).set 1 (.int .i64 (v))).set 2 (.string ⟨#[]⟩)).set 3 (.slice ia12 0 ic12)).set 4 (.slice ra12 0 rc12)).set 5 (.slice ba12 0 bc12)).swap
        clear z0 z1 z2 z3 z4 z5 f0 f1 f2 f3 f4 f5
        refine wpAnyL_done (by kernel_rfl) ?_ _
        refine NoPanic.normal ?_
        go_wp2_with fail
        go_meet
        exact ⟨_, ia12, ic12, ra12, rc12, ba12, bc12, h3, rfl, rfl, LL, HR, SS⟩
    · skip
      go_simp
      replace SS := hid (S.out.allocAt (k := ws.heap.size) (.cells #[.int .i64 0, .int .i64 0, .string ⟨#[]⟩, .slice none 0 0, .slice none 0 0, .slice none 0 0] 35) (by simp)).swap.drew
      replace hSw := cells6 SS.out.rot3
      refine hK.out _ _ (fun _ => hSw) ?_
      clear hK K
      try simp only [Act.put, List.setIfInBounds_toArray, List.set_cons_zero, List.set_cons_succ]
      refine wpAnyL_ready (rs := [2]) (by kernel_rfl) (by simp) ?_
      refine AllL.cons (o := _) rfl (fun K hK => ?_) AllL.nil
      go_simp
      go_at_call 21
      with_reducible refine (num8_any SS.out _).mono ?_
      rintro e wn ⟨rfl, s⟩
      replace SS := hid s
      clear s
      replace hSw := cells6 SS.out.rot3
      refine hK.out _ _ (fun _ => hSw) ?_
      clear hK K
      try simp only [Act.put, List.setIfInBounds_toArray, List.set_cons_zero, List.set_cons_succ]
      refine wpAnyL_ready (rs := [3]) (by kernel_rfl) (by simp) ?_
      refine AllL.cons (o := _) rfl (fun K hK => ?_) AllL.nil
      go_simp
      replace SS := hid (SS.out.allocAt (k := wn.heap.size) (.cells #[.int .i64 1, .int .i64 (M), .string ⟨#[]⟩, .slice ia11 0 ic11, .slice ra11 0 rc11, .slice ba11 0 bc11, .int .i64 1, .int .i64 (k), .string ⟨#[]⟩, .slice none 0 0, .slice none 0 0, .slice none 0 0] 35) (by simp))
      clear hSw
      refine hK.out _ _ (fun hv => absurd hv (by decide +kernel)) ?_
      clear hK K
      try simp only [Act.put, List.setIfInBounds_toArray, List.set_cons_zero, List.set_cons_succ]
      refine wpAnyL_ready (rs := [4]) (by kernel_rfl) (by simp) ?_
      refine AllL.cons (o := _) rfl (fun K hK => ?_) AllL.nil
      go_simp
      go_at_call 23
      refine (do_bsr HQ.out SS.out (M) (k) HR11.out (in_N _ _) FM.out FK.out K0.out K63.out (z := v) HM2.out FV.out).mono ?_
      rintro e wd ⟨ia12, ic12, ra12, rc12, ba12, bc12, h3, rfl, l, s, q⟩
      replace SS := hid s
      have LL := hid l
      have HR := hid q
      clear s l q
      refine hK.out _ _ (fun hv => absurd hv (by decide +kernel)) ?_
      clear hK K
      try simp only [Act.put, List.setIfInBounds_toArray, List.set_cons_zero, List.set_cons_succ]
      refine wpAnyL_pure (i := 5) (d := 91) (v := ?_) rfl (by kernel_rfl) (by kernel_rfl) (by kernel_rfl) (by kernel_rfl) (by decide) (fun _ _ _ h => h) (Or.inl ⟨by rfl, ?_⟩) (fun hv => absurd hv (by decide +kernel)) ?_
      rotate_left
      · intro w _; go_simp; all_goals with_reducible rfl
      try simp only [Act.put, List.setIfInBounds_toArray, List.set_cons_zero, List.set_cons_succ]
      refine wpAnyL_pure (i := 6) (d := 97) (v := ?_) rfl (by kernel_rfl) (by kernel_rfl) (by kernel_rfl) (by kernel_rfl) (by decide) (fun _ _ _ h => h) (Or.inl ⟨by rfl, ?_⟩) (fun hv => absurd hv (by decide +kernel)) ?_
      rotate_left
      · intro w _; go_simp; all_goals with_reducible rfl
      try simp only [Act.put, List.setIfInBounds_toArray, List.set_cons_zero, List.set_cons_succ]
      refine wpAnyL_pure (i := 7) (d := 98) (v := ?_) rfl (by kernel_rfl) (by kernel_rfl) (by kernel_rfl) (by kernel_rfl) (by decide) (fun _ _ _ h => h) (Or.inl ⟨by rfl, ?_⟩) (fun hv => absurd hv (by decide +kernel)) ?_
      rotate_left
      · intro w _; go_simp; all_goals with_reducible rfl
      try simp only [Act.put, List.setIfInBounds_toArray, List.set_cons_zero, List.set_cons_succ]
      refine wpAnyL_ready (rs := [9]) (by kernel_rfl) (by simp) ?_
      refine AllL.cons (o := _) rfl (fun K hK => ?_) AllL.nil
      have z0 := SS.out.swap.cell 0
      have f0 := SS.out.swap.free 0
      have z1 := SS.out.swap.cell 1
      have f1 := SS.out.swap.free 1
      have z2 := SS.out.swap.cell 2
      have f2 := SS.out.swap.free 2
      have z3 := SS.out.swap.cell 3
      have f3 := SS.out.swap.free 3
      have z4 := SS.out.swap.cell 4
      have f4 := SS.out.swap.free 4
      have z5 := SS.out.swap.cell 5
      have f5 := SS.out.swap.free 5
      simp only [List.getElem?_toArray, List.getElem?_cons_succ, List.getElem?_cons_zero] at z0 z1 z2 z3 z4 z5
      go_simp
      refine hK.out _ _ (fun hv => absurd hv (by decide +kernel)) ?_
      clear hK K
      try simp only [Act.put, List.setIfInBounds_toArray, List.set_cons_zero, List.set_cons_succ]
      refine wpAnyL_ready (rs := [10]) (by kernel_rfl) (by simp) ?_
      refine AllL.cons (o := _) rfl (fun K hK => ?_) AllL.nil
      go_simp
      refine hK.out _ _ (fun hv => absurd hv (by decide +kernel)) ?_
      clear hK K
      try simp only [Act.put, List.setIfInBounds_toArray, List.set_cons_zero, List.set_cons_succ]
      replace SS := hid ((((((SS.out.swap.set 0 (.int .i64 1)).set 1 (.int .i64 (v))).set 2 (.string ⟨#[]⟩)).set 3 (.slice ia12 0 ic12)).set 4 (.slice ra12 0 rc12)).set 5 (.slice ba12 0 bc12)).swap
      clear z0 z1 z2 z3 z4 z5 f0 f1 f2 f3 f4 f5
      refine wpAnyL_done (by kernel_rfl) ?_ _
      refine NoPanic.normal ?_
      go_wp2_with fail
      go_meet
      exact ⟨_, ia12, ic12, ra12, rc12, ba12, bc12, h3, rfl, rfl, LL, HR, SS⟩
  case rest =>
    clear S
    obtain ⟨xb12, ia12, ic12, ra12, rc12, ba12, bc12, h12, rfl, rfl, LL, HR12, S⟩ := hcut
    replace HQ := hid (HQ.out.mono LL.out)
    replace HL := hid (HL.out.trans LL.out)
    replace HR3 := hid (TIn.mono LL.out _ HR3.out)
    replace HR6 := hid (TIn.mono LL.out _ HR6.out)
    replace HR9 := hid (TIn.mono LL.out _ HR9.out)
    replace HR11 := hid (TIn.mono LL.out _ HR11.out)
    clear LL
    go_wp2_with fail
    have HN := hid (number_any HQ.out S.out ⟨#[98, 115, 108]⟩)
    rw [fnk_bsl.1] at HN
    refine HN.out.mono ?_
    rintro e wb ⟨rfl, s⟩
    replace S := hid s
    clear s HN
    go_wp2_with fail
    refine (num8_any S.out _).mono ?_
    rintro e wn13 ⟨rfl, s⟩
    replace S := hid s
    clear s
    have g1 : IntKind.i64.wrap (64 + k) = 64 + k := by have := FK2.out; unfold fits at this; rw [wrapi]; unfold wrap64; omega
    have g2 : wrap64 (64 + k) = 64 + k := (wrapi _).symm.trans g1
    go_wp2_with fail
    refine (num8_any S.out _).mono ?_
    rintro e wn14 ⟨rfl, s⟩
    replace S := hid s
    clear s
    clear g1 g2
    have SB := hid (S.out.alloc (.cells #[.int .i64 1, .int .i64 (a), .string ⟨#[]⟩, .slice none 0 0, .slice none 0 0, .slice none 0 0, .int .i64 1, .int .i64 (64 + k), .string ⟨#[]⟩, .slice none 0 0, .slice none 0 0, .slice none 0 0] 35))
    have HA := hid (bdo_bsl HQ.out SB.out FA.out FK2.out HK2.out)
    clear S
    go_wp2_with fail
    refine HA.out.mono ?_
    rintro e w6 ⟨t, vs, h6, why, rfl, l6, s6, q6, _, hn⟩
    obtain ⟨rfl, hw⟩ := hn rfl
    replace hw : why = ⟨#[98, 97, 100, 97, 114, 105, 116, 104]⟩ := hw
    subst hw
    obtain ⟨ja, jc, sa, sc, da, dc, rfl, _⟩ := id q6.vals
    unfold tVals
    have S := hid (s6.alloc' (.cells #[.int .i64 tZ0.k, .int .i64 tZ0.n, .string tZ0.nm, .slice ja tZ0.is.length jc, .slice sa tZ0.rs.length sc, .slice da tZ0.bs.length dc] 35))
    replace HL := hid (HL.out.trans l6)
    replace HQ := hid (HQ.out.mono l6)
    clear s6 l6 q6 HA SB hn
    have c121 := S.out.swap.cell 1
    simp only [List.getElem?_toArray, List.getElem?_cons_succ, List.getElem?_cons_zero] at c121
    have HA := hid (awake8 HQ.out S.out)
    go_wp2_with fail
    refine HA.out.mono ?_
    rintro e w9 ⟨h9, rfl, l9, s9⟩
    go_wp2_with fail
    go_ret
    exact ⟨rfl, s9.archBelow (HL.out.trans l9)⟩
#print axioms bits_walk
end Go.Proofs.YtlgogflhjpcmlaaDoor
