/-
  BifSums: the law's own walk. (Written by wip/gen/gen_lawsums.py.)
-/
import Derived.Test.YtlgogflhjpcmlaaDoorBifW
namespace Go.Proofs.YtlgogflhjpcmlaaDoor
open Go.RowKit
set_option maxHeartbeats 4000000
set_option maxRecDepth 100000

theorem wrap_id {a : Int} (h : fits a) : wrap64 a = a := by unfold fits at h; unfold wrap64; omega
theorem sub_back {a b : Int} (h : fits a) : wrap64 (wrap64 (a + b) - b) = a := by
  obtain ⟨q, e⟩ := w_mod (a + b)
  rw [e, w_eq (y := a) (q := q) (by omega), wrap_id h]
theorem div_back {a b : Int} (h : fits a) : wrap64 (wrap64 (wrap64 (a.tdiv b) * b) + a.tmod b) = a := by
  obtain ⟨q1, e1⟩ := w_mod (a.tdiv b)
  obtain ⟨q2, e2⟩ := w_mod (wrap64 (a.tdiv b) * b)
  have e := Int.mul_tdiv_add_tmod a b
  rw [e2, e1, w_eq (y := a) (q := q1 * b + q2) ?_, wrap_id h]
  rw [Int.add_mul, Int.mul_assoc 18446744073709551616 q1 b, Int.mul_comm (a.tdiv b) b]
  omega
theorem mul_shift (a p : Int) : wrap64 (a * wrap64 p) = wrap64 (a * p) := by
  obtain ⟨q, e⟩ := w_mod p
  rw [e, w_eq (y := a * p) (q := a * q)]
  rw [Int.mul_add, ← Int.mul_assoc, Int.mul_comm a 18446744073709551616, Int.mul_assoc]
theorem tmod_facts (a b : Int) : (0 ≤ a → 0 ≤ a.tmod b ∧ a.tmod b ≤ a) ∧ (a < 0 → a.tmod b ≤ 0 ∧ a ≤ a.tmod b) := by
  constructor
  · intro h
    refine ⟨Int.tmod_nonneg b h, ?_⟩
    have h1 := Int.natAbs_tmod a b
    have h2 := Nat.mod_le a.natAbs b.natAbs
    have h3 := Int.tmod_nonneg b h
    omega
  · intro h
    have h0 := Int.tmod_nonneg b (show 0 ≤ -a by omega)
    rw [Int.neg_tmod] at h0
    have h1 := Int.natAbs_tmod a b
    have h2 := Nat.mod_le a.natAbs b.natAbs
    omega
theorem sums_walk {W : World} (a b s : Int) (hT : TabS (heapOf W)) (fa : fits a) (fb : fits b) :
    Calls Tryd.prog 5 #[.int .i64 a, .int .i64 b, .int .i64 s] W fun e w' => e = .returned (.bool true) ∧ Below W.heap.size W w' := by
  have HQ := hid hT
  have FA := hid fa
  have FB := hid fb
  have S := hid (Sat.startArch W)
  have HL := hid (Le.refl (heapOf W))
  obtain ⟨X, HX⟩ : ∃ X, Hid (wrap64 (a + b) = X) := ⟨_, hid rfl⟩
  have FX : Hid (fits X) := hid (by rw [← HX.out]; exact fits_wrap _)
  have HY : Hid (wrap64 (X - b) = a) := hid (by rw [← HX.out]; exact sub_back FA.out)
  clear hT fa fb
  go_enter Tryd.func5, Tryd.ntmps5
  go_wp2_with fail
  refine (num8_any S.out _).mono ?_
  rintro e wn1 ⟨rfl, s⟩
  replace S := hid s
  clear s
  go_wp2_with fail
  refine (num8_any S.out _).mono ?_
  rintro e wn2 ⟨rfl, s⟩
  replace S := hid s
  clear s
  have SB := hid (S.out.alloc (.cells #[.int .i64 1, .int .i64 (a), .string ⟨#[]⟩, .slice none 0 0, .slice none 0 0, .slice none 0 0, .int .i64 1, .int .i64 (b), .string ⟨#[]⟩, .slice none 0 0, .slice none 0 0, .slice none 0 0] 35))
  have HA := hid (do_add HQ.out SB.out (a) (b) (in_N _ _) (in_N _ _) FA.out FB.out  (z := X) HX.out FX.out)
  clear S
  go_wp2_with fail
  refine HA.out.mono ?_
  rintro e w3 ⟨ia3, ic3, ra3, rc3, ba3, bc3, h3, rfl, l, s, q⟩
  obtain ⟨xb3, HXB3⟩ : ∃ xb, Hid (w3.heap.size = xb) := ⟨_, hid rfl⟩
  have S := hid (s.allocAt (k := w3.heap.size) (.cells #[.int .i64 1, .int .i64 (X), .string ⟨#[]⟩, .slice ia3 0 ic3, .slice ra3 0 rc3, .slice ba3 0 bc3] 35) rfl).swap
  rw [HXB3.out] at S
  replace HQ := hid (HQ.out.mono l)
  replace HL := hid (HL.out.trans l)
  have HR3 := hid q
  clear s l q SB HA
  go_upto_region 2 with fail
  rw [HXB3.out]
  obtain ⟨ws, HWS⟩ : ∃ ws, Hid (w3.alloc (.cells #[.int .i64 1, .int .i64 (X), .string ⟨#[]⟩, .slice ia3 0 ic3, .slice ra3 0 rc3, .slice ba3 0 bc3] 35) = ws) := ⟨_, hid rfl⟩
  rw [HWS.out] at S ⊢
  obtain ⟨hh, HHH⟩ : ∃ hh, Hid (h3 = hh) := ⟨_, hid rfl⟩
  rw [HHH.out] at S HQ HL HR3
  go_cut [9, 10] from 29 to 36 (fun pv qv wd => ∃ (yb : Nat) (ia4 : Option Addr) (ic4 : Nat) (ra4 : Option Addr) (rc4 : Nat) (ba4 : Option Addr) (bc4 : Nat) (h' : Nat → Option Obj), pv = .pointer (some ⟨yb, 0, none⟩) ∧ qv = .bool true ∧ Hid (Le hh h') ∧ Hid (TIn h' (tN (a)) [.int .i64 1, .int .i64 (a), .string ⟨#[]⟩, .slice ia4 0 ic4, .slice ra4 0 rc4, .slice ba4 0 bc4]) ∧ Hid (Sat W wd (arch h' :: blk yb (.cells #[.int .i64 1, .int .i64 (a), .string ⟨#[]⟩, .slice ia4 0 ic4, .slice ra4 0 rc4, .slice ba4 0 bc4] 35 (0, 0)) :: blk xb3 (.cells #[.int .i64 1, .int .i64 (X), .string ⟨#[]⟩, .slice ia3 0 ic3, .slice ra3 0 rc3, .slice ba3 0 bc3] 35 (0, 0)) :: [])))
  case first =>
    refine wp_region_noPanic ?_
    have hSw := cells6 S.out.drew.swap
    refine wp_region_L (S := fun w' => World.cell? w' ⟨xb3, 0, none⟩ = some (.int .i64 1) ∧ World.cell? w' ⟨xb3, 1, none⟩ = some (.int .i64 (X)) ∧ World.cell? w' ⟨xb3, 2, none⟩ = some (.string ⟨#[]⟩) ∧ World.cell? w' ⟨xb3, 3, none⟩ = some (.slice ia3 0 ic3) ∧ World.cell? w' ⟨xb3, 4, none⟩ = some (.slice ra3 0 rc3) ∧ World.cell? w' ⟨xb3, 5, none⟩ = some (.slice ba3 0 bc3)) 3 (by kernel_rfl) ?_
    refine wpAnyL_pure (i := 1) (d := 31) (v := ?_) rfl (by kernel_rfl) (by kernel_rfl) (by kernel_rfl) (by kernel_rfl) (by decide) (fun _ _ _ h => h) (Or.inl ⟨by rfl, ?_⟩) (fun _ => hSw) ?_
    rotate_left
    · intro w _; go_simp; all_goals with_reducible rfl
    try simp only [Act.put, List.setIfInBounds_toArray, List.set_cons_zero, List.set_cons_succ]
    refine wpAnyL_load (i := 0) (d := 30) (v := ?_) rfl (by kernel_rfl) (by kernel_rfl) (by kernel_rfl) (by kernel_rfl) (by decide) (by kernel_rfl) (by kernel_rfl) (fun _ _ _ h => h) (Or.inl ⟨by rfl, ?_⟩) hSw ?_
    rotate_left
    · intro w hSw; (try dsimp only at hSw); go_simp; all_goals with_reducible rfl
    try simp only [Act.put, List.setIfInBounds_toArray, List.set_cons_zero, List.set_cons_succ]
    have SS := hid S.out.drew
    refine wpAnyL_ready (rs := [2, 8]) (by kernel_rfl) (by simp) ?_
    refine AllL.cons (o := _) rfl (fun K hK => ?_) (AllL.cons (o := _) rfl (fun K hK => ?_) AllL.nil)
    · skip
      go_simp
      go_at_call 21
      with_reducible refine (num8_any SS.out _).mono ?_
      rintro e wn ⟨rfl, s⟩
      replace SS := hid s
      clear s
      replace hSw := cells6 SS.out.swap
      refine hK.out _ _ (fun _ => hSw) ?_
      clear hK K
      try simp only [Act.put, List.setIfInBounds_toArray, List.set_cons_zero, List.set_cons_succ]
      refine wpAnyL_ready (rs := [3, 8]) (by kernel_rfl) (by simp) ?_
      refine AllL.cons (o := _) rfl (fun K hK => ?_) (AllL.cons (o := _) rfl (fun K hK => ?_) AllL.nil)
      · skip
        go_simp
        replace SS := hid (SS.out.allocAt (k := wn.heap.size) (.cells #[.int .i64 1, .int .i64 (X), .string ⟨#[]⟩, .slice ia3 0 ic3, .slice ra3 0 rc3, .slice ba3 0 bc3, .int .i64 1, .int .i64 (b), .string ⟨#[]⟩, .slice none 0 0, .slice none 0 0, .slice none 0 0] 35) (by simp))
        clear hSw
        refine hK.out _ _ (fun hv => absurd hv (by decide +kernel)) ?_
        clear hK K
        try simp only [Act.put, List.setIfInBounds_toArray, List.set_cons_zero, List.set_cons_succ]
        refine wpAnyL_ready (rs := [4, 8]) (by kernel_rfl) (by simp) ?_
        refine AllL.cons (o := _) rfl (fun K hK => ?_) (AllL.cons (o := _) rfl (fun K hK => ?_) AllL.nil)
        · skip
          go_simp
          go_at_call 23
          refine (do_sub HQ.out SS.out (X) (b) HR3.out (in_N _ _) FX.out FB.out  (z := a) HY.out FA.out).mono ?_
          rintro e wd ⟨ia4, ic4, ra4, rc4, ba4, bc4, h3, rfl, l, s, q⟩
          replace SS := hid s
          have LL := hid l
          have HR := hid q
          clear s l q
          refine hK.out _ _ (fun hv => absurd hv (by decide +kernel)) ?_
          clear hK K
          try simp only [Act.put, List.setIfInBounds_toArray, List.set_cons_zero, List.set_cons_succ]
          refine wpAnyL_pure (i := 5) (d := 29) (v := ?_) rfl (by kernel_rfl) (by kernel_rfl) (by kernel_rfl) (by kernel_rfl) (by decide) (fun _ _ _ h => h) (Or.inl ⟨by rfl, ?_⟩) (fun hv => absurd hv (by decide +kernel)) ?_
          rotate_left
          · intro w _; go_simp; all_goals with_reducible rfl
          try simp only [Act.put, List.setIfInBounds_toArray, List.set_cons_zero, List.set_cons_succ]
          refine wpAnyL_pure (i := 6) (d := 35) (v := ?_) rfl (by kernel_rfl) (by kernel_rfl) (by kernel_rfl) (by kernel_rfl) (by decide) (fun _ _ _ h => h) (Or.inl ⟨by rfl, ?_⟩) (fun hv => absurd hv (by decide +kernel)) ?_
          rotate_left
          · intro w _; go_simp; all_goals with_reducible rfl
          try simp only [Act.put, List.setIfInBounds_toArray, List.set_cons_zero, List.set_cons_succ]
          refine wpAnyL_pure (i := 7) (d := 36) (v := ?_) rfl (by kernel_rfl) (by kernel_rfl) (by kernel_rfl) (by kernel_rfl) (by decide) (fun _ _ _ h => h) (Or.inl ⟨by rfl, ?_⟩) (fun hv => absurd hv (by decide +kernel)) ?_
          rotate_left
          · intro w _; go_simp; all_goals with_reducible rfl
          try simp only [Act.put, List.setIfInBounds_toArray, List.set_cons_zero, List.set_cons_succ]
          refine wpAnyL_ready (rs := [8]) (by kernel_rfl) (by simp) ?_
          refine AllL.cons (o := _) rfl (fun K hK => ?_) AllL.nil
          have S0 := SS
          go_simp
          replace SS := hid (SS.out.allocAt (k := wd.heap.size) (.cells #[.int .i64 0, .int .i64 0, .string ⟨#[]⟩, .slice none 0 0, .slice none 0 0, .slice none 0 0] 35) (by simp)).swap
          refine hK.out _ _ (fun hv => absurd hv (by decide +kernel)) ?_
          clear hK K
          try simp only [Act.put, List.setIfInBounds_toArray, List.set_cons_zero, List.set_cons_succ]
          refine wpAnyL_ready (rs := [9]) (by kernel_rfl) (by simp) ?_
          refine AllL.cons (o := _) rfl (fun K hK => ?_) AllL.nil
          have z0 := SS.out.swap.cell 0
          have f0 := SS.out.swap.free 0
          have z1 := SS.out.swap.cell 1
          have f1 := SS.out.swap.free 1
          have z2 := SS.out.swap.cell 2
          have f2 := SS.out.swap.free 2
          have z3 := SS.out.swap.cell 3
          have f3 := SS.out.swap.free 3
          have z4 := SS.out.swap.cell 4
          have f4 := SS.out.swap.free 4
          have z5 := SS.out.swap.cell 5
          have f5 := SS.out.swap.free 5
          simp only [List.getElem?_toArray, List.getElem?_cons_succ, List.getElem?_cons_zero] at z0 z1 z2 z3 z4 z5
          go_simp
          refine hK.out _ _ (fun hv => absurd hv (by decide +kernel)) ?_
          clear hK K
          try simp only [Act.put, List.setIfInBounds_toArray, List.set_cons_zero, List.set_cons_succ]
          refine wpAnyL_ready (rs := [10]) (by kernel_rfl) (by simp) ?_
          refine AllL.cons (o := _) rfl (fun K hK => ?_) AllL.nil
          go_simp
          refine hK.out _ _ (fun hv => absurd hv (by decide +kernel)) ?_
          clear hK K
          try simp only [Act.put, List.setIfInBounds_toArray, List.set_cons_zero, List.set_cons_succ]
          replace SS := hid (S0.out.allocAt (k := wd.heap.size) (.cells #[.int .i64 1, .int .i64 (a), .string ⟨#[]⟩, .slice ia4 0 ic4, .slice ra4 0 rc4, .slice ba4 0 bc4] 35) (by simp)).swap
          clear z0 z1 z2 z3 z4 z5 f0 f1 f2 f3 f4 f5
          refine wpAnyL_done (by kernel_rfl) ?_ _
          refine NoPanic.normal ?_
          go_wp2_with fail
          go_meet
          exact ⟨_, ia4, ic4, ra4, rc4, ba4, bc4, h3, rfl, rfl, LL, HR, SS⟩
        · skip
          go_simp
          replace SS := hid (SS.out.allocAt (k := wn.heap.size + 1) (.cells #[.int .i64 0, .int .i64 0, .string ⟨#[]⟩, .slice none 0 0, .slice none 0 0, .slice none 0 0] 35) (by simp)).unrot3
          refine hK.out _ _ (fun hv => absurd hv (by decide +kernel)) ?_
          clear hK K
          try simp only [Act.put, List.setIfInBounds_toArray, List.set_cons_zero, List.set_cons_succ]
          refine wpAnyL_ready (rs := [4]) (by kernel_rfl) (by simp) ?_
          refine AllL.cons (o := _) rfl (fun K hK => ?_) AllL.nil
          go_simp
          go_at_call 23
          refine (do_sub HQ.out SS.out (X) (b) HR3.out (in_N _ _) FX.out FB.out  (z := a) HY.out FA.out).mono ?_
          rintro e wd ⟨ia4, ic4, ra4, rc4, ba4, bc4, h3, rfl, l, s, q⟩
          replace SS := hid s
          have LL := hid l
          have HR := hid q
          clear s l q
          refine hK.out _ _ (fun hv => absurd hv (by decide +kernel)) ?_
          clear hK K
          try simp only [Act.put, List.setIfInBounds_toArray, List.set_cons_zero, List.set_cons_succ]
          refine wpAnyL_pure (i := 5) (d := 29) (v := ?_) rfl (by kernel_rfl) (by kernel_rfl) (by kernel_rfl) (by kernel_rfl) (by decide) (fun _ _ _ h => h) (Or.inl ⟨by rfl, ?_⟩) (fun hv => absurd hv (by decide +kernel)) ?_
          rotate_left
          · intro w _; go_simp; all_goals with_reducible rfl
          try simp only [Act.put, List.setIfInBounds_toArray, List.set_cons_zero, List.set_cons_succ]
          refine wpAnyL_pure (i := 6) (d := 35) (v := ?_) rfl (by kernel_rfl) (by kernel_rfl) (by kernel_rfl) (by kernel_rfl) (by decide) (fun _ _ _ h => h) (Or.inl ⟨by rfl, ?_⟩) (fun hv => absurd hv (by decide +kernel)) ?_
          rotate_left
          · intro w _; go_simp; all_goals with_reducible rfl
          try simp only [Act.put, List.setIfInBounds_toArray, List.set_cons_zero, List.set_cons_succ]
          refine wpAnyL_pure (i := 7) (d := 36) (v := ?_) rfl (by kernel_rfl) (by kernel_rfl) (by kernel_rfl) (by kernel_rfl) (by decide) (fun _ _ _ h => h) (Or.inl ⟨by rfl, ?_⟩) (fun hv => absurd hv (by decide +kernel)) ?_
          rotate_left
          · intro w _; go_simp; all_goals with_reducible rfl
          try simp only [Act.put, List.setIfInBounds_toArray, List.set_cons_zero, List.set_cons_succ]
          refine wpAnyL_ready (rs := [9]) (by kernel_rfl) (by simp) ?_
          refine AllL.cons (o := _) rfl (fun K hK => ?_) AllL.nil
          have z0 := SS.out.swap.cell 0
          have f0 := SS.out.swap.free 0
          have z1 := SS.out.swap.cell 1
          have f1 := SS.out.swap.free 1
          have z2 := SS.out.swap.cell 2
          have f2 := SS.out.swap.free 2
          have z3 := SS.out.swap.cell 3
          have f3 := SS.out.swap.free 3
          have z4 := SS.out.swap.cell 4
          have f4 := SS.out.swap.free 4
          have z5 := SS.out.swap.cell 5
          have f5 := SS.out.swap.free 5
          simp only [List.getElem?_toArray, List.getElem?_cons_succ, List.getElem?_cons_zero] at z0 z1 z2 z3 z4 z5
          go_simp
          refine hK.out _ _ (fun hv => absurd hv (by decide +kernel)) ?_
          clear hK K
          try simp only [Act.put, List.setIfInBounds_toArray, List.set_cons_zero, List.set_cons_succ]
          refine wpAnyL_ready (rs := [10]) (by kernel_rfl) (by simp) ?_
          refine AllL.cons (o := _) rfl (fun K hK => ?_) AllL.nil
          go_simp
          refine hK.out _ _ (fun hv => absurd hv (by decide +kernel)) ?_
          clear hK K
          try simp only [Act.put, List.setIfInBounds_toArray, List.set_cons_zero, List.set_cons_succ]
          replace SS := hid ((((((SS.out.swap.set 0 (.int .i64 1)).set 1 (.int .i64 (a))).set 2 (.string ⟨#[]⟩)).set 3 (.slice ia4 0 ic4)).set 4 (.slice ra4 0 rc4)).set 5 (.slice ba4 0 bc4)).swap
          clear z0 z1 z2 z3 z4 z5 f0 f1 f2 f3 f4 f5
          refine wpAnyL_done (by kernel_rfl) ?_ _
          refine NoPanic.normal ?_
          go_wp2_with fail
          go_meet
          exact ⟨_, ia4, ic4, ra4, rc4, ba4, bc4, h3, rfl, rfl, LL, HR, SS⟩
      · skip
        go_simp
        replace SS := hid (SS.out.allocAt (k := wn.heap.size) (.cells #[.int .i64 0, .int .i64 0, .string ⟨#[]⟩, .slice none 0 0, .slice none 0 0, .slice none 0 0] 35) (by simp)).swap
        replace hSw := cells6 SS.out.rot3
        refine hK.out _ _ (fun _ => hSw) ?_
        clear hK K
        try simp only [Act.put, List.setIfInBounds_toArray, List.set_cons_zero, List.set_cons_succ]
        refine wpAnyL_ready (rs := [3]) (by kernel_rfl) (by simp) ?_
        refine AllL.cons (o := _) rfl (fun K hK => ?_) AllL.nil
        go_simp
        replace SS := hid (SS.out.allocAt (k := wn.heap.size + 1) (.cells #[.int .i64 1, .int .i64 (X), .string ⟨#[]⟩, .slice ia3 0 ic3, .slice ra3 0 rc3, .slice ba3 0 bc3, .int .i64 1, .int .i64 (b), .string ⟨#[]⟩, .slice none 0 0, .slice none 0 0, .slice none 0 0] 35) (by simp))
        clear hSw
        refine hK.out _ _ (fun hv => absurd hv (by decide +kernel)) ?_
        clear hK K
        try simp only [Act.put, List.setIfInBounds_toArray, List.set_cons_zero, List.set_cons_succ]
        refine wpAnyL_ready (rs := [4]) (by kernel_rfl) (by simp) ?_
        refine AllL.cons (o := _) rfl (fun K hK => ?_) AllL.nil
        go_simp
        go_at_call 23
        refine (do_sub HQ.out SS.out (X) (b) HR3.out (in_N _ _) FX.out FB.out  (z := a) HY.out FA.out).mono ?_
        rintro e wd ⟨ia4, ic4, ra4, rc4, ba4, bc4, h3, rfl, l, s, q⟩
        replace SS := hid s
        have LL := hid l
        have HR := hid q
        clear s l q
        refine hK.out _ _ (fun hv => absurd hv (by decide +kernel)) ?_
        clear hK K
        try simp only [Act.put, List.setIfInBounds_toArray, List.set_cons_zero, List.set_cons_succ]
        refine wpAnyL_pure (i := 5) (d := 29) (v := ?_) rfl (by kernel_rfl) (by kernel_rfl) (by kernel_rfl) (by kernel_rfl) (by decide) (fun _ _ _ h => h) (Or.inl ⟨by rfl, ?_⟩) (fun hv => absurd hv (by decide +kernel)) ?_
        rotate_left
        · intro w _; go_simp; all_goals with_reducible rfl
        try simp only [Act.put, List.setIfInBounds_toArray, List.set_cons_zero, List.set_cons_succ]
        refine wpAnyL_pure (i := 6) (d := 35) (v := ?_) rfl (by kernel_rfl) (by kernel_rfl) (by kernel_rfl) (by kernel_rfl) (by decide) (fun _ _ _ h => h) (Or.inl ⟨by rfl, ?_⟩) (fun hv => absurd hv (by decide +kernel)) ?_
        rotate_left
        · intro w _; go_simp; all_goals with_reducible rfl
        try simp only [Act.put, List.setIfInBounds_toArray, List.set_cons_zero, List.set_cons_succ]
        refine wpAnyL_pure (i := 7) (d := 36) (v := ?_) rfl (by kernel_rfl) (by kernel_rfl) (by kernel_rfl) (by kernel_rfl) (by decide) (fun _ _ _ h => h) (Or.inl ⟨by rfl, ?_⟩) (fun hv => absurd hv (by decide +kernel)) ?_
        rotate_left
        · intro w _; go_simp; all_goals with_reducible rfl
        try simp only [Act.put, List.setIfInBounds_toArray, List.set_cons_zero, List.set_cons_succ]
        refine wpAnyL_ready (rs := [9]) (by kernel_rfl) (by simp) ?_
        refine AllL.cons (o := _) rfl (fun K hK => ?_) AllL.nil
        have z0 := SS.out.swap.cell 0
        have f0 := SS.out.swap.free 0
        have z1 := SS.out.swap.cell 1
        have f1 := SS.out.swap.free 1
        have z2 := SS.out.swap.cell 2
        have f2 := SS.out.swap.free 2
        have z3 := SS.out.swap.cell 3
        have f3 := SS.out.swap.free 3
        have z4 := SS.out.swap.cell 4
        have f4 := SS.out.swap.free 4
        have z5 := SS.out.swap.cell 5
        have f5 := SS.out.swap.free 5
        simp only [List.getElem?_toArray, List.getElem?_cons_succ, List.getElem?_cons_zero] at z0 z1 z2 z3 z4 z5
        go_simp
        refine hK.out _ _ (fun hv => absurd hv (by decide +kernel)) ?_
        clear hK K
        try simp only [Act.put, List.setIfInBounds_toArray, List.set_cons_zero, List.set_cons_succ]
        refine wpAnyL_ready (rs := [10]) (by kernel_rfl) (by simp) ?_
        refine AllL.cons (o := _) rfl (fun K hK => ?_) AllL.nil
        go_simp
        refine hK.out _ _ (fun hv => absurd hv (by decide +kernel)) ?_
        clear hK K
        try simp only [Act.put, List.setIfInBounds_toArray, List.set_cons_zero, List.set_cons_succ]
        replace SS := hid ((((((SS.out.swap.set 0 (.int .i64 1)).set 1 (.int .i64 (a))).set 2 (.string ⟨#[]⟩)).set 3 (.slice ia4 0 ic4)).set 4 (.slice ra4 0 rc4)).set 5 (.slice ba4 0 bc4)).swap
        clear z0 z1 z2 z3 z4 z5 f0 f1 f2 f3 f4 f5
        refine wpAnyL_done (by kernel_rfl) ?_ _
        refine NoPanic.normal ?_
        go_wp2_with fail
        go_meet
        exact ⟨_, ia4, ic4, ra4, rc4, ba4, bc4, h3, rfl, rfl, LL, HR, SS⟩
    · skip
      go_simp
      replace SS := hid (S.out.allocAt (k := ws.heap.size) (.cells #[.int .i64 0, .int .i64 0, .string ⟨#[]⟩, .slice none 0 0, .slice none 0 0, .slice none 0 0] 35) (by simp)).swap.drew
      replace hSw := cells6 SS.out.rot3
      refine hK.out _ _ (fun _ => hSw) ?_
      clear hK K
      try simp only [Act.put, List.setIfInBounds_toArray, List.set_cons_zero, List.set_cons_succ]
      refine wpAnyL_ready (rs := [2]) (by kernel_rfl) (by simp) ?_
      refine AllL.cons (o := _) rfl (fun K hK => ?_) AllL.nil
      go_simp
      go_at_call 21
      with_reducible refine (num8_any SS.out _).mono ?_
      rintro e wn ⟨rfl, s⟩
      replace SS := hid s
      clear s
      replace hSw := cells6 SS.out.rot3
      refine hK.out _ _ (fun _ => hSw) ?_
      clear hK K
      try simp only [Act.put, List.setIfInBounds_toArray, List.set_cons_zero, List.set_cons_succ]
      refine wpAnyL_ready (rs := [3]) (by kernel_rfl) (by simp) ?_
      refine AllL.cons (o := _) rfl (fun K hK => ?_) AllL.nil
      go_simp
      replace SS := hid (SS.out.allocAt (k := wn.heap.size) (.cells #[.int .i64 1, .int .i64 (X), .string ⟨#[]⟩, .slice ia3 0 ic3, .slice ra3 0 rc3, .slice ba3 0 bc3, .int .i64 1, .int .i64 (b), .string ⟨#[]⟩, .slice none 0 0, .slice none 0 0, .slice none 0 0] 35) (by simp))
      clear hSw
      refine hK.out _ _ (fun hv => absurd hv (by decide +kernel)) ?_
      clear hK K
      try simp only [Act.put, List.setIfInBounds_toArray, List.set_cons_zero, List.set_cons_succ]
      refine wpAnyL_ready (rs := [4]) (by kernel_rfl) (by simp) ?_
      refine AllL.cons (o := _) rfl (fun K hK => ?_) AllL.nil
      go_simp
      go_at_call 23
      refine (do_sub HQ.out SS.out (X) (b) HR3.out (in_N _ _) FX.out FB.out  (z := a) HY.out FA.out).mono ?_
      rintro e wd ⟨ia4, ic4, ra4, rc4, ba4, bc4, h3, rfl, l, s, q⟩
      replace SS := hid s
      have LL := hid l
      have HR := hid q
      clear s l q
      refine hK.out _ _ (fun hv => absurd hv (by decide +kernel)) ?_
      clear hK K
      try simp only [Act.put, List.setIfInBounds_toArray, List.set_cons_zero, List.set_cons_succ]
      refine wpAnyL_pure (i := 5) (d := 29) (v := ?_) rfl (by kernel_rfl) (by kernel_rfl) (by kernel_rfl) (by kernel_rfl) (by decide) (fun _ _ _ h => h) (Or.inl ⟨by rfl, ?_⟩) (fun hv => absurd hv (by decide +kernel)) ?_
      rotate_left
      · intro w _; go_simp; all_goals with_reducible rfl
      try simp only [Act.put, List.setIfInBounds_toArray, List.set_cons_zero, List.set_cons_succ]
      refine wpAnyL_pure (i := 6) (d := 35) (v := ?_) rfl (by kernel_rfl) (by kernel_rfl) (by kernel_rfl) (by kernel_rfl) (by decide) (fun _ _ _ h => h) (Or.inl ⟨by rfl, ?_⟩) (fun hv => absurd hv (by decide +kernel)) ?_
      rotate_left
      · intro w _; go_simp; all_goals with_reducible rfl
      try simp only [Act.put, List.setIfInBounds_toArray, List.set_cons_zero, List.set_cons_succ]
      refine wpAnyL_pure (i := 7) (d := 36) (v := ?_) rfl (by kernel_rfl) (by kernel_rfl) (by kernel_rfl) (by kernel_rfl) (by decide) (fun _ _ _ h => h) (Or.inl ⟨by rfl, ?_⟩) (fun hv => absurd hv (by decide +kernel)) ?_
      rotate_left
      · intro w _; go_simp; all_goals with_reducible rfl
      try simp only [Act.put, List.setIfInBounds_toArray, List.set_cons_zero, List.set_cons_succ]
      refine wpAnyL_ready (rs := [9]) (by kernel_rfl) (by simp) ?_
      refine AllL.cons (o := _) rfl (fun K hK => ?_) AllL.nil
      have z0 := SS.out.swap.cell 0
      have f0 := SS.out.swap.free 0
      have z1 := SS.out.swap.cell 1
      have f1 := SS.out.swap.free 1
      have z2 := SS.out.swap.cell 2
      have f2 := SS.out.swap.free 2
      have z3 := SS.out.swap.cell 3
      have f3 := SS.out.swap.free 3
      have z4 := SS.out.swap.cell 4
      have f4 := SS.out.swap.free 4
      have z5 := SS.out.swap.cell 5
      have f5 := SS.out.swap.free 5
      simp only [List.getElem?_toArray, List.getElem?_cons_succ, List.getElem?_cons_zero] at z0 z1 z2 z3 z4 z5
      go_simp
      refine hK.out _ _ (fun hv => absurd hv (by decide +kernel)) ?_
      clear hK K
      try simp only [Act.put, List.setIfInBounds_toArray, List.set_cons_zero, List.set_cons_succ]
      refine wpAnyL_ready (rs := [10]) (by kernel_rfl) (by simp) ?_
      refine AllL.cons (o := _) rfl (fun K hK => ?_) AllL.nil
      go_simp
      refine hK.out _ _ (fun hv => absurd hv (by decide +kernel)) ?_
      clear hK K
      try simp only [Act.put, List.setIfInBounds_toArray, List.set_cons_zero, List.set_cons_succ]
      replace SS := hid ((((((SS.out.swap.set 0 (.int .i64 1)).set 1 (.int .i64 (a))).set 2 (.string ⟨#[]⟩)).set 3 (.slice ia4 0 ic4)).set 4 (.slice ra4 0 rc4)).set 5 (.slice ba4 0 bc4)).swap
      clear z0 z1 z2 z3 z4 z5 f0 f1 f2 f3 f4 f5
      refine wpAnyL_done (by kernel_rfl) ?_ _
      refine NoPanic.normal ?_
      go_wp2_with fail
      go_meet
      exact ⟨_, ia4, ic4, ra4, rc4, ba4, bc4, h3, rfl, rfl, LL, HR, SS⟩
  case rest =>
    clear S
    obtain ⟨xb4, ia4, ic4, ra4, rc4, ba4, bc4, h4, rfl, rfl, LL, HR4, S⟩ := hcut
    replace HQ := hid (HQ.out.mono LL.out)
    replace HL := hid (HL.out.trans LL.out)
    replace HR3 := hid (TIn.mono LL.out _ HR3.out)
    clear LL
    have c41 := S.out.swap.cell 1
    simp only [List.getElem?_toArray, List.getElem?_cons_succ, List.getElem?_cons_zero] at c41
    go_wp2_with fail
    clear c41
    by_cases hb : b = 0
    · have H0 := hid hb
      have F0 : Hid (fits 0) := hid (by unfold fits; omega)
      subst hb
      refine (num8_any S.out _).mono ?_
      rintro e wf ⟨rfl, s⟩
      replace S := hid s
      clear s
      go_wp2_with fail
      refine (num8_any S.out _).mono ?_
      rintro e wn5 ⟨rfl, s⟩
      replace S := hid s
      clear s
      have SB := hid (S.out.alloc (.cells #[.int .i64 1, .int .i64 (a), .string ⟨#[]⟩, .slice none 0 0, .slice none 0 0, .slice none 0 0, .int .i64 1, .int .i64 (0), .string ⟨#[]⟩, .slice none 0 0, .slice none 0 0, .slice none 0 0] 35))
      have HA := hid (do_div_bad HQ.out SB.out (a) (0) (in_N _ _) (in_N _ _) FA.out F0.out rfl)
      clear S
      go_wp2_with fail
      refine HA.out.mono ?_
      rintro e w6 ⟨ia6, ic6, ra6, rc6, ba6, bc6, h6, rfl, l, s, q⟩
      obtain ⟨xb6, HXB6⟩ : ∃ xb, Hid (w6.heap.size = xb) := ⟨_, hid rfl⟩
      have S := hid (s.allocAt (k := w6.heap.size) (.cells #[.int .i64 0, .int .i64 0, .string ⟨#[]⟩, .slice ia6 0 ic6, .slice ra6 0 rc6, .slice ba6 0 bc6] 35) rfl).swap
      rw [HXB6.out] at S
      replace HQ := hid (HQ.out.mono l)
      replace HL := hid (HL.out.trans l)
      have HR6 := hid q
      replace HR3 := hid (TIn.mono l _ HR3.out)
      replace HR4 := hid (TIn.mono l _ HR4.out)
      clear s l q SB HA
      go_wp2_with fail
      refine (num8_any S.out _).mono ?_
      rintro e wn7 ⟨rfl, s⟩
      replace S := hid s
      clear s
      rw [HXB6.out]
      go_wp2_with fail
      refine (num8_any S.out _).mono ?_
      rintro e wn8 ⟨rfl, s⟩
      replace S := hid s
      clear s
      have SB := hid (S.out.alloc (.cells #[.int .i64 1, .int .i64 (a), .string ⟨#[]⟩, .slice none 0 0, .slice none 0 0, .slice none 0 0, .int .i64 1, .int .i64 (0), .string ⟨#[]⟩, .slice none 0 0, .slice none 0 0, .slice none 0 0] 35))
      have HA := hid (do_rem_bad HQ.out SB.out (a) (0) (in_N _ _) (in_N _ _) FA.out F0.out rfl)
      clear S
      go_wp2_with fail
      refine HA.out.mono ?_
      rintro e w9 ⟨ia9, ic9, ra9, rc9, ba9, bc9, h9, rfl, l, s, q⟩
      obtain ⟨xb9, HXB9⟩ : ∃ xb, Hid (w9.heap.size = xb) := ⟨_, hid rfl⟩
      have S := hid (s.allocAt (k := w9.heap.size) (.cells #[.int .i64 0, .int .i64 0, .string ⟨#[]⟩, .slice ia9 0 ic9, .slice ra9 0 rc9, .slice ba9 0 bc9] 35) rfl).swap
      rw [HXB9.out] at S
      replace HQ := hid (HQ.out.mono l)
      replace HL := hid (HL.out.trans l)
      have HR9 := hid q
      replace HR3 := hid (TIn.mono l _ HR3.out)
      replace HR4 := hid (TIn.mono l _ HR4.out)
      replace HR6 := hid (TIn.mono l _ HR6.out)
      clear s l q SB HA
      have HA := hid (awake8 HQ.out S.out)
      go_wp2_with fail
      refine HA.out.mono ?_
      rintro e w9 ⟨h9, rfl, l9, s9⟩
      go_wp2_with fail
      go_ret
      exact ⟨rfl, s9.archBelow (HL.out.trans l9)⟩
    · have HB0 : Hid (b ≠ 0) := hid hb
      obtain ⟨Q, HQQ⟩ : ∃ X, Hid (wrap64 (a.tdiv b) = X) := ⟨_, hid rfl⟩
      obtain ⟨R, HRR⟩ : ∃ X, Hid (a.tmod b = X) := ⟨_, hid rfl⟩
      obtain ⟨P, HPP⟩ : ∃ X, Hid (wrap64 (Q * b) = X) := ⟨_, hid rfl⟩
      have FQ : Hid (fits Q) := hid (by rw [← HQQ.out]; exact fits_wrap _)
      have FP : Hid (fits P) := hid (by rw [← HPP.out]; exact fits_wrap _)
      have HS : Hid ((0 ≤ a → 0 ≤ R ∧ R ≤ a) ∧ (a < 0 → R ≤ 0 ∧ a ≤ R)) := hid (by rw [← HRR.out]; exact tmod_facts a b)
      have FR : Hid (fits R) := hid (by have h1 := HS.out; have h2 := FA.out; unfold fits at *; omega)
      have HZ : Hid (wrap64 (P + R) = a) := hid (by rw [← HPP.out, ← HQQ.out, ← HRR.out]; exact div_back FA.out)
      obtain ⟨k, HK⟩ : ∃ k, Hid (s % 63 = k) := ⟨_, hid rfl⟩
      have K0 : Hid (0 ≤ k) := hid (by rw [← HK.out]; exact Int.emod_nonneg _ (by decide))
      have K63 : Hid (k ≤ 63) := hid (by have := Int.emod_lt_of_pos s (b := 63) (by decide); rw [HK.out] at this; omega)
      have FK : Hid (fits k) := hid (by have := K0.out; have := K63.out; unfold fits; omega)
      obtain ⟨M, HM⟩ : ∃ m, Hid (wrap64 (a * 2 ^ k.toNat) = m) := ⟨_, hid rfl⟩
      have FM : Hid (fits M) := hid (by rw [← HM.out]; exact fits_wrap _)
      obtain ⟨SH, HSH⟩ : ∃ m, Hid (wrap64 (2 ^ k.toNat) = m) := ⟨_, hid rfl⟩
      have FSH : Hid (fits SH) := hid (by rw [← HSH.out]; exact fits_wrap _)
      have HM2 : Hid (wrap64 (a * SH) = M) := hid (by rw [← HSH.out, ← HM.out]; exact mul_shift _ _)
      have b0 : (b == 0) = false := by simpa using hb
      clear hb
      refine (num8_any S.out _).mono ?_
      rintro e wf ⟨rfl, s⟩
      replace S := hid s
      clear s
      go_wp2_with fail
      refine (num8_any S.out _).mono ?_
      rintro e wn5 ⟨rfl, s⟩
      replace S := hid s
      clear s
      have SB := hid (S.out.alloc (.cells #[.int .i64 1, .int .i64 (a), .string ⟨#[]⟩, .slice none 0 0, .slice none 0 0, .slice none 0 0, .int .i64 1, .int .i64 (b), .string ⟨#[]⟩, .slice none 0 0, .slice none 0 0, .slice none 0 0] 35))
      have HA := hid (do_div HQ.out SB.out (a) (b) (in_N _ _) (in_N _ _) FA.out FB.out HB0.out (z := Q) HQQ.out FQ.out)
      clear S
      go_wp2_with fail
      refine HA.out.mono ?_
      rintro e w6 ⟨ia6, ic6, ra6, rc6, ba6, bc6, h6, rfl, l, s, q⟩
      obtain ⟨xb6, HXB6⟩ : ∃ xb, Hid (w6.heap.size = xb) := ⟨_, hid rfl⟩
      have S := hid (s.allocAt (k := w6.heap.size) (.cells #[.int .i64 1, .int .i64 (Q), .string ⟨#[]⟩, .slice ia6 0 ic6, .slice ra6 0 rc6, .slice ba6 0 bc6] 35) rfl).swap
      rw [HXB6.out] at S
      replace HQ := hid (HQ.out.mono l)
      replace HL := hid (HL.out.trans l)
      have HR6 := hid q
      replace HR3 := hid (TIn.mono l _ HR3.out)
      replace HR4 := hid (TIn.mono l _ HR4.out)
      clear s l q SB HA
      go_wp2_with fail
      refine (num8_any S.out _).mono ?_
      rintro e wn7 ⟨rfl, s⟩
      replace S := hid s
      clear s
      rw [HXB6.out]
      go_wp2_with fail
      refine (num8_any S.out _).mono ?_
      rintro e wn8 ⟨rfl, s⟩
      replace S := hid s
      clear s
      have SB := hid (S.out.alloc (.cells #[.int .i64 1, .int .i64 (a), .string ⟨#[]⟩, .slice none 0 0, .slice none 0 0, .slice none 0 0, .int .i64 1, .int .i64 (b), .string ⟨#[]⟩, .slice none 0 0, .slice none 0 0, .slice none 0 0] 35))
      have HA := hid (do_rem HQ.out SB.out (a) (b) (in_N _ _) (in_N _ _) FA.out FB.out HB0.out (z := R) HRR.out FR.out)
      clear S
      go_wp2_with fail
      refine HA.out.mono ?_
      rintro e w9 ⟨ia9, ic9, ra9, rc9, ba9, bc9, h9, rfl, l, s, q⟩
      obtain ⟨xb9, HXB9⟩ : ∃ xb, Hid (w9.heap.size = xb) := ⟨_, hid rfl⟩
      have S := hid (s.allocAt (k := w9.heap.size) (.cells #[.int .i64 1, .int .i64 (R), .string ⟨#[]⟩, .slice ia9 0 ic9, .slice ra9 0 rc9, .slice ba9 0 bc9] 35) rfl).swap
      rw [HXB9.out] at S
      replace HQ := hid (HQ.out.mono l)
      replace HL := hid (HL.out.trans l)
      have HR9 := hid q
      replace HR3 := hid (TIn.mono l _ HR3.out)
      replace HR4 := hid (TIn.mono l _ HR4.out)
      replace HR6 := hid (TIn.mono l _ HR6.out)
      clear s l q SB HA
      go_wp2_with fail
      clear b0
      go_upto_region 9 with fail
      rw [HXB9.out]
      obtain ⟨ws, HWS⟩ : ∃ ws, Hid (w9.alloc (.cells #[.int .i64 1, .int .i64 (R), .string ⟨#[]⟩, .slice ia9 0 ic9, .slice ra9 0 rc9, .slice ba9 0 bc9] 35) = ws) := ⟨_, hid rfl⟩
      rw [HWS.out] at S ⊢
      obtain ⟨hh, HHH⟩ : ∃ hh, Hid (h9 = hh) := ⟨_, hid rfl⟩
      rw [HHH.out] at S HQ HL HR3 HR4 HR6 HR9
      go_cut [13, 14] from 78 to 85 (fun pv qv wd => ∃ (yb : Nat) (ia10 : Option Addr) (ic10 : Nat) (ra10 : Option Addr) (rc10 : Nat) (ba10 : Option Addr) (bc10 : Nat) (h' : Nat → Option Obj), pv = .pointer (some ⟨yb, 0, none⟩) ∧ qv = .bool true ∧ Hid (Le hh h') ∧ Hid (TIn h' (tN (P)) [.int .i64 1, .int .i64 (P), .string ⟨#[]⟩, .slice ia10 0 ic10, .slice ra10 0 rc10, .slice ba10 0 bc10]) ∧ Hid (Sat W wd (arch h' :: blk yb (.cells #[.int .i64 1, .int .i64 (P), .string ⟨#[]⟩, .slice ia10 0 ic10, .slice ra10 0 rc10, .slice ba10 0 bc10] 35 (0, 0)) :: blk xb9 (.cells #[.int .i64 1, .int .i64 (R), .string ⟨#[]⟩, .slice ia9 0 ic9, .slice ra9 0 rc9, .slice ba9 0 bc9] 35 (0, 0)) :: blk xb6 (.cells #[.int .i64 1, .int .i64 (Q), .string ⟨#[]⟩, .slice ia6 0 ic6, .slice ra6 0 rc6, .slice ba6 0 bc6] 35 (0, 0)) :: blk xb4 (.cells #[.int .i64 1, .int .i64 (a), .string ⟨#[]⟩, .slice ia4 0 ic4, .slice ra4 0 rc4, .slice ba4 0 bc4] 35 (0, 0)) :: blk xb3 (.cells #[.int .i64 1, .int .i64 (X), .string ⟨#[]⟩, .slice ia3 0 ic3, .slice ra3 0 rc3, .slice ba3 0 bc3] 35 (0, 0)) :: [])))
      case first =>
        refine wp_region_noPanic ?_
        have hSw := cells6 S.out.drew.rot3
        refine wp_region_L (S := fun w' => World.cell? w' ⟨xb6, 0, none⟩ = some (.int .i64 1) ∧ World.cell? w' ⟨xb6, 1, none⟩ = some (.int .i64 (Q)) ∧ World.cell? w' ⟨xb6, 2, none⟩ = some (.string ⟨#[]⟩) ∧ World.cell? w' ⟨xb6, 3, none⟩ = some (.slice ia6 0 ic6) ∧ World.cell? w' ⟨xb6, 4, none⟩ = some (.slice ra6 0 rc6) ∧ World.cell? w' ⟨xb6, 5, none⟩ = some (.slice ba6 0 bc6)) 3 (by kernel_rfl) ?_
        refine wpAnyL_pure (i := 1) (d := 80) (v := ?_) rfl (by kernel_rfl) (by kernel_rfl) (by kernel_rfl) (by kernel_rfl) (by decide) (fun _ _ _ h => h) (Or.inl ⟨by rfl, ?_⟩) (fun _ => hSw) ?_
        rotate_left
        · intro w _; go_simp; all_goals with_reducible rfl
        try simp only [Act.put, List.setIfInBounds_toArray, List.set_cons_zero, List.set_cons_succ]
        refine wpAnyL_load (i := 0) (d := 79) (v := ?_) rfl (by kernel_rfl) (by kernel_rfl) (by kernel_rfl) (by kernel_rfl) (by decide) (by kernel_rfl) (by kernel_rfl) (fun _ _ _ h => h) (Or.inl ⟨by rfl, ?_⟩) hSw ?_
        rotate_left
        · intro w hSw; (try dsimp only at hSw); go_simp; all_goals with_reducible rfl
        try simp only [Act.put, List.setIfInBounds_toArray, List.set_cons_zero, List.set_cons_succ]
        have SS := hid S.out.drew
        refine wpAnyL_ready (rs := [2, 8]) (by kernel_rfl) (by simp) ?_
        refine AllL.cons (o := _) rfl (fun K hK => ?_) (AllL.cons (o := _) rfl (fun K hK => ?_) AllL.nil)
        · skip
          go_simp
          go_at_call 21
          with_reducible refine (num8_any SS.out _).mono ?_
          rintro e wn ⟨rfl, s⟩
          replace SS := hid s
          clear s
          replace hSw := cells6 SS.out.rot3
          refine hK.out _ _ (fun _ => hSw) ?_
          clear hK K
          try simp only [Act.put, List.setIfInBounds_toArray, List.set_cons_zero, List.set_cons_succ]
          refine wpAnyL_ready (rs := [3, 8]) (by kernel_rfl) (by simp) ?_
          refine AllL.cons (o := _) rfl (fun K hK => ?_) (AllL.cons (o := _) rfl (fun K hK => ?_) AllL.nil)
          · skip
            go_simp
            replace SS := hid (SS.out.allocAt (k := wn.heap.size) (.cells #[.int .i64 1, .int .i64 (Q), .string ⟨#[]⟩, .slice ia6 0 ic6, .slice ra6 0 rc6, .slice ba6 0 bc6, .int .i64 1, .int .i64 (b), .string ⟨#[]⟩, .slice none 0 0, .slice none 0 0, .slice none 0 0] 35) (by simp))
            clear hSw
            refine hK.out _ _ (fun hv => absurd hv (by decide +kernel)) ?_
            clear hK K
            try simp only [Act.put, List.setIfInBounds_toArray, List.set_cons_zero, List.set_cons_succ]
            refine wpAnyL_ready (rs := [4, 8]) (by kernel_rfl) (by simp) ?_
            refine AllL.cons (o := _) rfl (fun K hK => ?_) (AllL.cons (o := _) rfl (fun K hK => ?_) AllL.nil)
            · skip
              go_simp
              go_at_call 23
              refine (do_mul HQ.out SS.out (Q) (b) HR6.out (in_N _ _) FQ.out FB.out  (z := P) HPP.out FP.out).mono ?_
              rintro e wd ⟨ia10, ic10, ra10, rc10, ba10, bc10, h3, rfl, l, s, q⟩
              replace SS := hid s
              have LL := hid l
              have HR := hid q
              clear s l q
              refine hK.out _ _ (fun hv => absurd hv (by decide +kernel)) ?_
              clear hK K
              try simp only [Act.put, List.setIfInBounds_toArray, List.set_cons_zero, List.set_cons_succ]
              refine wpAnyL_pure (i := 5) (d := 78) (v := ?_) rfl (by kernel_rfl) (by kernel_rfl) (by kernel_rfl) (by kernel_rfl) (by decide) (fun _ _ _ h => h) (Or.inl ⟨by rfl, ?_⟩) (fun hv => absurd hv (by decide +kernel)) ?_
              rotate_left
              · intro w _; go_simp; all_goals with_reducible rfl
              try simp only [Act.put, List.setIfInBounds_toArray, List.set_cons_zero, List.set_cons_succ]
              refine wpAnyL_pure (i := 6) (d := 84) (v := ?_) rfl (by kernel_rfl) (by kernel_rfl) (by kernel_rfl) (by kernel_rfl) (by decide) (fun _ _ _ h => h) (Or.inl ⟨by rfl, ?_⟩) (fun hv => absurd hv (by decide +kernel)) ?_
              rotate_left
              · intro w _; go_simp; all_goals with_reducible rfl
              try simp only [Act.put, List.setIfInBounds_toArray, List.set_cons_zero, List.set_cons_succ]
              refine wpAnyL_pure (i := 7) (d := 85) (v := ?_) rfl (by kernel_rfl) (by kernel_rfl) (by kernel_rfl) (by kernel_rfl) (by decide) (fun _ _ _ h => h) (Or.inl ⟨by rfl, ?_⟩) (fun hv => absurd hv (by decide +kernel)) ?_
              rotate_left
              · intro w _; go_simp; all_goals with_reducible rfl
              try simp only [Act.put, List.setIfInBounds_toArray, List.set_cons_zero, List.set_cons_succ]
              refine wpAnyL_ready (rs := [8]) (by kernel_rfl) (by simp) ?_
              refine AllL.cons (o := _) rfl (fun K hK => ?_) AllL.nil
              have S0 := SS
              go_simp
              replace SS := hid (SS.out.allocAt (k := wd.heap.size) (.cells #[.int .i64 0, .int .i64 0, .string ⟨#[]⟩, .slice none 0 0, .slice none 0 0, .slice none 0 0] 35) (by simp)).swap
              refine hK.out _ _ (fun hv => absurd hv (by decide +kernel)) ?_
              clear hK K
              try simp only [Act.put, List.setIfInBounds_toArray, List.set_cons_zero, List.set_cons_succ]
              refine wpAnyL_ready (rs := [9]) (by kernel_rfl) (by simp) ?_
              refine AllL.cons (o := _) rfl (fun K hK => ?_) AllL.nil
              have z0 := SS.out.swap.cell 0
              have f0 := SS.out.swap.free 0
              have z1 := SS.out.swap.cell 1
              have f1 := SS.out.swap.free 1
              have z2 := SS.out.swap.cell 2
              have f2 := SS.out.swap.free 2
              have z3 := SS.out.swap.cell 3
              have f3 := SS.out.swap.free 3
              have z4 := SS.out.swap.cell 4
              have f4 := SS.out.swap.free 4
              have z5 := SS.out.swap.cell 5
              have f5 := SS.out.swap.free 5
              simp only [List.getElem?_toArray, List.getElem?_cons_succ, List.getElem?_cons_zero] at z0 z1 z2 z3 z4 z5
              go_simp
              refine hK.out _ _ (fun hv => absurd hv (by decide +kernel)) ?_
              clear hK K
              try simp only [Act.put, List.setIfInBounds_toArray, List.set_cons_zero, List.set_cons_succ]
              refine wpAnyL_ready (rs := [10]) (by kernel_rfl) (by simp) ?_
              refine AllL.cons (o := _) rfl (fun K hK => ?_) AllL.nil
              go_simp
              refine hK.out _ _ (fun hv => absurd hv (by decide +kernel)) ?_
              clear hK K
              try simp only [Act.put, List.setIfInBounds_toArray, List.set_cons_zero, List.set_cons_succ]
              replace SS := hid (S0.out.allocAt (k := wd.heap.size) (.cells #[.int .i64 1, .int .i64 (P), .string ⟨#[]⟩, .slice ia10 0 ic10, .slice ra10 0 rc10, .slice ba10 0 bc10] 35) (by simp)).swap
              clear z0 z1 z2 z3 z4 z5 f0 f1 f2 f3 f4 f5
              refine wpAnyL_done (by kernel_rfl) ?_ _
              refine NoPanic.normal ?_
              go_wp2_with fail
              go_meet
              exact ⟨_, ia10, ic10, ra10, rc10, ba10, bc10, h3, rfl, rfl, LL, HR, SS⟩
            · skip
              go_simp
              replace SS := hid (SS.out.allocAt (k := wn.heap.size + 1) (.cells #[.int .i64 0, .int .i64 0, .string ⟨#[]⟩, .slice none 0 0, .slice none 0 0, .slice none 0 0] 35) (by simp)).unrot3
              refine hK.out _ _ (fun hv => absurd hv (by decide +kernel)) ?_
              clear hK K
              try simp only [Act.put, List.setIfInBounds_toArray, List.set_cons_zero, List.set_cons_succ]
              refine wpAnyL_ready (rs := [4]) (by kernel_rfl) (by simp) ?_
              refine AllL.cons (o := _) rfl (fun K hK => ?_) AllL.nil
              go_simp
              go_at_call 23
              refine (do_mul HQ.out SS.out (Q) (b) HR6.out (in_N _ _) FQ.out FB.out  (z := P) HPP.out FP.out).mono ?_
              rintro e wd ⟨ia10, ic10, ra10, rc10, ba10, bc10, h3, rfl, l, s, q⟩
              replace SS := hid s
              have LL := hid l
              have HR := hid q
              clear s l q
              refine hK.out _ _ (fun hv => absurd hv (by decide +kernel)) ?_
              clear hK K
              try simp only [Act.put, List.setIfInBounds_toArray, List.set_cons_zero, List.set_cons_succ]
              refine wpAnyL_pure (i := 5) (d := 78) (v := ?_) rfl (by kernel_rfl) (by kernel_rfl) (by kernel_rfl) (by kernel_rfl) (by decide) (fun _ _ _ h => h) (Or.inl ⟨by rfl, ?_⟩) (fun hv => absurd hv (by decide +kernel)) ?_
              rotate_left
              · intro w _; go_simp; all_goals with_reducible rfl
              try simp only [Act.put, List.setIfInBounds_toArray, List.set_cons_zero, List.set_cons_succ]
              refine wpAnyL_pure (i := 6) (d := 84) (v := ?_) rfl (by kernel_rfl) (by kernel_rfl) (by kernel_rfl) (by kernel_rfl) (by decide) (fun _ _ _ h => h) (Or.inl ⟨by rfl, ?_⟩) (fun hv => absurd hv (by decide +kernel)) ?_
              rotate_left
              · intro w _; go_simp; all_goals with_reducible rfl
              try simp only [Act.put, List.setIfInBounds_toArray, List.set_cons_zero, List.set_cons_succ]
              refine wpAnyL_pure (i := 7) (d := 85) (v := ?_) rfl (by kernel_rfl) (by kernel_rfl) (by kernel_rfl) (by kernel_rfl) (by decide) (fun _ _ _ h => h) (Or.inl ⟨by rfl, ?_⟩) (fun hv => absurd hv (by decide +kernel)) ?_
              rotate_left
              · intro w _; go_simp; all_goals with_reducible rfl
              try simp only [Act.put, List.setIfInBounds_toArray, List.set_cons_zero, List.set_cons_succ]
              refine wpAnyL_ready (rs := [9]) (by kernel_rfl) (by simp) ?_
              refine AllL.cons (o := _) rfl (fun K hK => ?_) AllL.nil
              have z0 := SS.out.swap.cell 0
              have f0 := SS.out.swap.free 0
              have z1 := SS.out.swap.cell 1
              have f1 := SS.out.swap.free 1
              have z2 := SS.out.swap.cell 2
              have f2 := SS.out.swap.free 2
              have z3 := SS.out.swap.cell 3
              have f3 := SS.out.swap.free 3
              have z4 := SS.out.swap.cell 4
              have f4 := SS.out.swap.free 4
              have z5 := SS.out.swap.cell 5
              have f5 := SS.out.swap.free 5
              simp only [List.getElem?_toArray, List.getElem?_cons_succ, List.getElem?_cons_zero] at z0 z1 z2 z3 z4 z5
              go_simp
              refine hK.out _ _ (fun hv => absurd hv (by decide +kernel)) ?_
              clear hK K
              try simp only [Act.put, List.setIfInBounds_toArray, List.set_cons_zero, List.set_cons_succ]
              refine wpAnyL_ready (rs := [10]) (by kernel_rfl) (by simp) ?_
              refine AllL.cons (o := _) rfl (fun K hK => ?_) AllL.nil
              go_simp
              refine hK.out _ _ (fun hv => absurd hv (by decide +kernel)) ?_
              clear hK K
              try simp only [Act.put, List.setIfInBounds_toArray, List.set_cons_zero, List.set_cons_succ]
              replace SS := hid ((((((SS.out.swap.set 0 (.int .i64 1)).set 1 (.int .i64 (P))).set 2 (.string ⟨#[]⟩)).set 3 (.slice ia10 0 ic10)).set 4 (.slice ra10 0 rc10)).set 5 (.slice ba10 0 bc10)).swap
              clear z0 z1 z2 z3 z4 z5 f0 f1 f2 f3 f4 f5
              refine wpAnyL_done (by kernel_rfl) ?_ _
              refine NoPanic.normal ?_
              go_wp2_with fail
              go_meet
              exact ⟨_, ia10, ic10, ra10, rc10, ba10, bc10, h3, rfl, rfl, LL, HR, SS⟩
          · skip
            go_simp
            replace SS := hid (SS.out.allocAt (k := wn.heap.size) (.cells #[.int .i64 0, .int .i64 0, .string ⟨#[]⟩, .slice none 0 0, .slice none 0 0, .slice none 0 0] 35) (by simp)).swap
            replace hSw := cells6 SS.out.rot4
            refine hK.out _ _ (fun _ => hSw) ?_
            clear hK K
            try simp only [Act.put, List.setIfInBounds_toArray, List.set_cons_zero, List.set_cons_succ]
            refine wpAnyL_ready (rs := [3]) (by kernel_rfl) (by simp) ?_
            refine AllL.cons (o := _) rfl (fun K hK => ?_) AllL.nil
            go_simp
            replace SS := hid (SS.out.allocAt (k := wn.heap.size + 1) (.cells #[.int .i64 1, .int .i64 (Q), .string ⟨#[]⟩, .slice ia6 0 ic6, .slice ra6 0 rc6, .slice ba6 0 bc6, .int .i64 1, .int .i64 (b), .string ⟨#[]⟩, .slice none 0 0, .slice none 0 0, .slice none 0 0] 35) (by simp))
            clear hSw
            refine hK.out _ _ (fun hv => absurd hv (by decide +kernel)) ?_
            clear hK K
            try simp only [Act.put, List.setIfInBounds_toArray, List.set_cons_zero, List.set_cons_succ]
            refine wpAnyL_ready (rs := [4]) (by kernel_rfl) (by simp) ?_
            refine AllL.cons (o := _) rfl (fun K hK => ?_) AllL.nil
            go_simp
            go_at_call 23
            refine (do_mul HQ.out SS.out (Q) (b) HR6.out (in_N _ _) FQ.out FB.out  (z := P) HPP.out FP.out).mono ?_
            rintro e wd ⟨ia10, ic10, ra10, rc10, ba10, bc10, h3, rfl, l, s, q⟩
            replace SS := hid s
            have LL := hid l
            have HR := hid q
            clear s l q
            refine hK.out _ _ (fun hv => absurd hv (by decide +kernel)) ?_
            clear hK K
            try simp only [Act.put, List.setIfInBounds_toArray, List.set_cons_zero, List.set_cons_succ]
            refine wpAnyL_pure (i := 5) (d := 78) (v := ?_) rfl (by kernel_rfl) (by kernel_rfl) (by kernel_rfl) (by kernel_rfl) (by decide) (fun _ _ _ h => h) (Or.inl ⟨by rfl, ?_⟩) (fun hv => absurd hv (by decide +kernel)) ?_
            rotate_left
            · intro w _; go_simp; all_goals with_reducible rfl
            try simp only [Act.put, List.setIfInBounds_toArray, List.set_cons_zero, List.set_cons_succ]
            refine wpAnyL_pure (i := 6) (d := 84) (v := ?_) rfl (by kernel_rfl) (by kernel_rfl) (by kernel_rfl) (by kernel_rfl) (by decide) (fun _ _ _ h => h) (Or.inl ⟨by rfl, ?_⟩) (fun hv => absurd hv (by decide +kernel)) ?_
            rotate_left
            · intro w _; go_simp; all_goals with_reducible rfl
            try simp only [Act.put, List.setIfInBounds_toArray, List.set_cons_zero, List.set_cons_succ]
            refine wpAnyL_pure (i := 7) (d := 85) (v := ?_) rfl (by kernel_rfl) (by kernel_rfl) (by kernel_rfl) (by kernel_rfl) (by decide) (fun _ _ _ h => h) (Or.inl ⟨by rfl, ?_⟩) (fun hv => absurd hv (by decide +kernel)) ?_
            rotate_left
            · intro w _; go_simp; all_goals with_reducible rfl
            try simp only [Act.put, List.setIfInBounds_toArray, List.set_cons_zero, List.set_cons_succ]
            refine wpAnyL_ready (rs := [9]) (by kernel_rfl) (by simp) ?_
            refine AllL.cons (o := _) rfl (fun K hK => ?_) AllL.nil
            have z0 := SS.out.swap.cell 0
            have f0 := SS.out.swap.free 0
            have z1 := SS.out.swap.cell 1
            have f1 := SS.out.swap.free 1
            have z2 := SS.out.swap.cell 2
            have f2 := SS.out.swap.free 2
            have z3 := SS.out.swap.cell 3
            have f3 := SS.out.swap.free 3
            have z4 := SS.out.swap.cell 4
            have f4 := SS.out.swap.free 4
            have z5 := SS.out.swap.cell 5
            have f5 := SS.out.swap.free 5
            simp only [List.getElem?_toArray, List.getElem?_cons_succ, List.getElem?_cons_zero] at z0 z1 z2 z3 z4 z5
            go_simp
            refine hK.out _ _ (fun hv => absurd hv (by decide +kernel)) ?_
            clear hK K
            try simp only [Act.put, List.setIfInBounds_toArray, List.set_cons_zero, List.set_cons_succ]
            refine wpAnyL_ready (rs := [10]) (by kernel_rfl) (by simp) ?_
            refine AllL.cons (o := _) rfl (fun K hK => ?_) AllL.nil
            go_simp
            refine hK.out _ _ (fun hv => absurd hv (by decide +kernel)) ?_
            clear hK K
            try simp only [Act.put, List.setIfInBounds_toArray, List.set_cons_zero, List.set_cons_succ]
            replace SS := hid ((((((SS.out.swap.set 0 (.int .i64 1)).set 1 (.int .i64 (P))).set 2 (.string ⟨#[]⟩)).set 3 (.slice ia10 0 ic10)).set 4 (.slice ra10 0 rc10)).set 5 (.slice ba10 0 bc10)).swap
            clear z0 z1 z2 z3 z4 z5 f0 f1 f2 f3 f4 f5
            refine wpAnyL_done (by kernel_rfl) ?_ _
            refine NoPanic.normal ?_
            go_wp2_with fail
            go_meet
            exact ⟨_, ia10, ic10, ra10, rc10, ba10, bc10, h3, rfl, rfl, LL, HR, SS⟩
        · skip
          go_simp
          replace SS := hid (S.out.allocAt (k := ws.heap.size) (.cells #[.int .i64 0, .int .i64 0, .string ⟨#[]⟩, .slice none 0 0, .slice none 0 0, .slice none 0 0] 35) (by simp)).swap.drew
          replace hSw := cells6 SS.out.rot4
          refine hK.out _ _ (fun _ => hSw) ?_
          clear hK K
          try simp only [Act.put, List.setIfInBounds_toArray, List.set_cons_zero, List.set_cons_succ]
          refine wpAnyL_ready (rs := [2]) (by kernel_rfl) (by simp) ?_
          refine AllL.cons (o := _) rfl (fun K hK => ?_) AllL.nil
          go_simp
          go_at_call 21
          with_reducible refine (num8_any SS.out _).mono ?_
          rintro e wn ⟨rfl, s⟩
          replace SS := hid s
          clear s
          replace hSw := cells6 SS.out.rot4
          refine hK.out _ _ (fun _ => hSw) ?_
          clear hK K
          try simp only [Act.put, List.setIfInBounds_toArray, List.set_cons_zero, List.set_cons_succ]
          refine wpAnyL_ready (rs := [3]) (by kernel_rfl) (by simp) ?_
          refine AllL.cons (o := _) rfl (fun K hK => ?_) AllL.nil
          go_simp
          replace SS := hid (SS.out.allocAt (k := wn.heap.size) (.cells #[.int .i64 1, .int .i64 (Q), .string ⟨#[]⟩, .slice ia6 0 ic6, .slice ra6 0 rc6, .slice ba6 0 bc6, .int .i64 1, .int .i64 (b), .string ⟨#[]⟩, .slice none 0 0, .slice none 0 0, .slice none 0 0] 35) (by simp))
          clear hSw
          refine hK.out _ _ (fun hv => absurd hv (by decide +kernel)) ?_
          clear hK K
          try simp only [Act.put, List.setIfInBounds_toArray, List.set_cons_zero, List.set_cons_succ]
          refine wpAnyL_ready (rs := [4]) (by kernel_rfl) (by simp) ?_
          refine AllL.cons (o := _) rfl (fun K hK => ?_) AllL.nil
          go_simp
          go_at_call 23
          refine (do_mul HQ.out SS.out (Q) (b) HR6.out (in_N _ _) FQ.out FB.out  (z := P) HPP.out FP.out).mono ?_
          rintro e wd ⟨ia10, ic10, ra10, rc10, ba10, bc10, h3, rfl, l, s, q⟩
          replace SS := hid s
          have LL := hid l
          have HR := hid q
          clear s l q
          refine hK.out _ _ (fun hv => absurd hv (by decide +kernel)) ?_
          clear hK K
          try simp only [Act.put, List.setIfInBounds_toArray, List.set_cons_zero, List.set_cons_succ]
          refine wpAnyL_pure (i := 5) (d := 78) (v := ?_) rfl (by kernel_rfl) (by kernel_rfl) (by kernel_rfl) (by kernel_rfl) (by decide) (fun _ _ _ h => h) (Or.inl ⟨by rfl, ?_⟩) (fun hv => absurd hv (by decide +kernel)) ?_
          rotate_left
          · intro w _; go_simp; all_goals with_reducible rfl
          try simp only [Act.put, List.setIfInBounds_toArray, List.set_cons_zero, List.set_cons_succ]
          refine wpAnyL_pure (i := 6) (d := 84) (v := ?_) rfl (by kernel_rfl) (by kernel_rfl) (by kernel_rfl) (by kernel_rfl) (by decide) (fun _ _ _ h => h) (Or.inl ⟨by rfl, ?_⟩) (fun hv => absurd hv (by decide +kernel)) ?_
          rotate_left
          · intro w _; go_simp; all_goals with_reducible rfl
          try simp only [Act.put, List.setIfInBounds_toArray, List.set_cons_zero, List.set_cons_succ]
          refine wpAnyL_pure (i := 7) (d := 85) (v := ?_) rfl (by kernel_rfl) (by kernel_rfl) (by kernel_rfl) (by kernel_rfl) (by decide) (fun _ _ _ h => h) (Or.inl ⟨by rfl, ?_⟩) (fun hv => absurd hv (by decide +kernel)) ?_
          rotate_left
          · intro w _; go_simp; all_goals with_reducible rfl
          try simp only [Act.put, List.setIfInBounds_toArray, List.set_cons_zero, List.set_cons_succ]
          refine wpAnyL_ready (rs := [9]) (by kernel_rfl) (by simp) ?_
          refine AllL.cons (o := _) rfl (fun K hK => ?_) AllL.nil
          have z0 := SS.out.swap.cell 0
          have f0 := SS.out.swap.free 0
          have z1 := SS.out.swap.cell 1
          have f1 := SS.out.swap.free 1
          have z2 := SS.out.swap.cell 2
          have f2 := SS.out.swap.free 2
          have z3 := SS.out.swap.cell 3
          have f3 := SS.out.swap.free 3
          have z4 := SS.out.swap.cell 4
          have f4 := SS.out.swap.free 4
          have z5 := SS.out.swap.cell 5
          have f5 := SS.out.swap.free 5
          simp only [List.getElem?_toArray, List.getElem?_cons_succ, List.getElem?_cons_zero] at z0 z1 z2 z3 z4 z5
          go_simp
          refine hK.out _ _ (fun hv => absurd hv (by decide +kernel)) ?_
          clear hK K
          try simp only [Act.put, List.setIfInBounds_toArray, List.set_cons_zero, List.set_cons_succ]
          refine wpAnyL_ready (rs := [10]) (by kernel_rfl) (by simp) ?_
          refine AllL.cons (o := _) rfl (fun K hK => ?_) AllL.nil
          go_simp
          refine hK.out _ _ (fun hv => absurd hv (by decide +kernel)) ?_
          clear hK K
          try simp only [Act.put, List.setIfInBounds_toArray, List.set_cons_zero, List.set_cons_succ]
          replace SS := hid ((((((SS.out.swap.set 0 (.int .i64 1)).set 1 (.int .i64 (P))).set 2 (.string ⟨#[]⟩)).set 3 (.slice ia10 0 ic10)).set 4 (.slice ra10 0 rc10)).set 5 (.slice ba10 0 bc10)).swap
          clear z0 z1 z2 z3 z4 z5 f0 f1 f2 f3 f4 f5
          refine wpAnyL_done (by kernel_rfl) ?_ _
          refine NoPanic.normal ?_
          go_wp2_with fail
          go_meet
          exact ⟨_, ia10, ic10, ra10, rc10, ba10, bc10, h3, rfl, rfl, LL, HR, SS⟩
      case rest =>
        clear S
        obtain ⟨xb10, ia10, ic10, ra10, rc10, ba10, bc10, h10, rfl, rfl, LL, HR10, S⟩ := hcut
        replace HQ := hid (HQ.out.mono LL.out)
        replace HL := hid (HL.out.trans LL.out)
        replace HR3 := hid (TIn.mono LL.out _ HR3.out)
        replace HR4 := hid (TIn.mono LL.out _ HR4.out)
        replace HR6 := hid (TIn.mono LL.out _ HR6.out)
        replace HR9 := hid (TIn.mono LL.out _ HR9.out)
        clear LL
        have c100 := S.out.swap.cell 0
        simp only [List.getElem?_toArray, List.getElem?_cons_succ, List.getElem?_cons_zero] at c100
        have c101 := S.out.swap.cell 1
        simp only [List.getElem?_toArray, List.getElem?_cons_succ, List.getElem?_cons_zero] at c101
        have c102 := S.out.swap.cell 2
        simp only [List.getElem?_toArray, List.getElem?_cons_succ, List.getElem?_cons_zero] at c102
        have c103 := S.out.swap.cell 3
        simp only [List.getElem?_toArray, List.getElem?_cons_succ, List.getElem?_cons_zero] at c103
        have c104 := S.out.swap.cell 4
        simp only [List.getElem?_toArray, List.getElem?_cons_succ, List.getElem?_cons_zero] at c104
        have c105 := S.out.swap.cell 5
        simp only [List.getElem?_toArray, List.getElem?_cons_succ, List.getElem?_cons_zero] at c105
        have c90 := S.out.rot3.cell 0
        simp only [List.getElem?_toArray, List.getElem?_cons_succ, List.getElem?_cons_zero] at c90
        have c91 := S.out.rot3.cell 1
        simp only [List.getElem?_toArray, List.getElem?_cons_succ, List.getElem?_cons_zero] at c91
        have c92 := S.out.rot3.cell 2
        simp only [List.getElem?_toArray, List.getElem?_cons_succ, List.getElem?_cons_zero] at c92
        have c93 := S.out.rot3.cell 3
        simp only [List.getElem?_toArray, List.getElem?_cons_succ, List.getElem?_cons_zero] at c93
        have c94 := S.out.rot3.cell 4
        simp only [List.getElem?_toArray, List.getElem?_cons_succ, List.getElem?_cons_zero] at c94
        have c95 := S.out.rot3.cell 5
        simp only [List.getElem?_toArray, List.getElem?_cons_succ, List.getElem?_cons_zero] at c95
        have SB := hid (S.out.alloc (.cells #[.int .i64 1, .int .i64 (P), .string ⟨#[]⟩, .slice ia10 0 ic10, .slice ra10 0 rc10, .slice ba10 0 bc10, .int .i64 1, .int .i64 (R), .string ⟨#[]⟩, .slice ia9 0 ic9, .slice ra9 0 rc9, .slice ba9 0 bc9] 35))
        have HA := hid (do_add HQ.out SB.out (P) (R) HR10.out HR9.out FP.out FR.out  (z := a) HZ.out FA.out)
        clear S
        go_wp2_with fail
        clear c100 c101 c102 c103 c104 c105 c90 c91 c92 c93 c94 c95
        refine HA.out.mono ?_
        rintro e w11 ⟨ia11, ic11, ra11, rc11, ba11, bc11, h11, rfl, l, s, q⟩
        obtain ⟨xb11, HXB11⟩ : ∃ xb, Hid (w11.heap.size = xb) := ⟨_, hid rfl⟩
        have S := hid (s.allocAt (k := w11.heap.size) (.cells #[.int .i64 1, .int .i64 (a), .string ⟨#[]⟩, .slice ia11 0 ic11, .slice ra11 0 rc11, .slice ba11 0 bc11] 35) rfl).swap
        rw [HXB11.out] at S
        replace HQ := hid (HQ.out.mono l)
        replace HL := hid (HL.out.trans l)
        have HR11 := hid q
        replace HR3 := hid (TIn.mono l _ HR3.out)
        replace HR4 := hid (TIn.mono l _ HR4.out)
        replace HR6 := hid (TIn.mono l _ HR6.out)
        replace HR9 := hid (TIn.mono l _ HR9.out)
        replace HR10 := hid (TIn.mono l _ HR10.out)
        clear s l q SB HA
        have hr3 : R = 0 ∨ ((R == 0) = false ∧ decide (R < 0) = false ∧ decide (a < 0) = false) ∨ ((R == 0) = false ∧ decide (R < 0) = true ∧ decide (a < 0) = true) := by
          have hs := HS.out
          by_cases h0 : R = 0
          · exact .inl h0
          · by_cases ha : a < 0
            · exact .inr (.inr ⟨by simpa using h0, by have := hs.2 ha; simp; omega, by simpa using ha⟩)
            · exact .inr (.inl ⟨by simpa using h0, by have := hs.1 (by omega); simp; omega, by simpa using ha⟩)
        have c111 := S.out.swap.cell 1
        simp only [List.getElem?_toArray, List.getElem?_cons_succ, List.getElem?_cons_zero] at c111
        have c91 := S.out.rot4.cell 1
        simp only [List.getElem?_toArray, List.getElem?_cons_succ, List.getElem?_cons_zero] at c91
        have hx := HXB11.out
        rcases hr3 with h0 | ⟨h0, hs1, hs2⟩ | ⟨h0, hs1, hs2⟩
        · rw [h0] at c91
          clear h0
          go_wp2_with fail
          clear hx c111 c91
          refine (place_any s 63 _ (by decide) (by decide)).mono ?_
          rintro e _ ⟨rfl, rfl⟩
          rw [HK.out]
          go_wp2_with fail
          try rw [HXB11.out]
          refine (num8_any S.out _).mono ?_
          rintro e wf ⟨rfl, s⟩
          replace S := hid s
          clear s
          go_wp2_with fail
          refine (num8_any S.out _).mono ?_
          rintro e wn12 ⟨rfl, s⟩
          replace S := hid s
          clear s
          have SB := hid (S.out.alloc (.cells #[.int .i64 1, .int .i64 (a), .string ⟨#[]⟩, .slice none 0 0, .slice none 0 0, .slice none 0 0, .int .i64 1, .int .i64 (k), .string ⟨#[]⟩, .slice none 0 0, .slice none 0 0, .slice none 0 0] 35))
          have HA := hid (do_bsl HQ.out SB.out (a) (k) (in_N _ _) (in_N _ _) FA.out FK.out K0.out K63.out (z := M) HM.out FM.out)
          clear S
          go_wp2_with fail
          refine HA.out.mono ?_
          rintro e w13 ⟨ia13, ic13, ra13, rc13, ba13, bc13, h13, rfl, l, s, q⟩
          obtain ⟨xb13, HXB13⟩ : ∃ xb, Hid (w13.heap.size = xb) := ⟨_, hid rfl⟩
          have S := hid (s.allocAt (k := w13.heap.size) (.cells #[.int .i64 1, .int .i64 (M), .string ⟨#[]⟩, .slice ia13 0 ic13, .slice ra13 0 rc13, .slice ba13 0 bc13] 35) rfl).swap
          rw [HXB13.out] at S
          replace HQ := hid (HQ.out.mono l)
          replace HL := hid (HL.out.trans l)
          have HR13 := hid q
          replace HR3 := hid (TIn.mono l _ HR3.out)
          replace HR4 := hid (TIn.mono l _ HR4.out)
          replace HR6 := hid (TIn.mono l _ HR6.out)
          replace HR9 := hid (TIn.mono l _ HR9.out)
          replace HR10 := hid (TIn.mono l _ HR10.out)
          replace HR11 := hid (TIn.mono l _ HR11.out)
          clear s l q SB HA
          go_wp2_with fail
          refine (num8_any S.out _).mono ?_
          rintro e wn14 ⟨rfl, s⟩
          replace S := hid s
          clear s
          rw [HXB13.out]
          have k0 : 0 ≤ k := K0.out
          have k63 : k ≤ 63 := K63.out
          have sh1 : wrap64 (2 ^ k.toNat) = SH := HSH.out
          have sh2 : IntKind.i64.wrap (2 ^ k.toNat) = SH := (wrapi _).trans HSH.out
          have kw : IntKind.u64.wrap k = k := by rw [IntKind.wrap_u64]; omega
          have kn : ¬ k < 0 := by omega
          have kn2 : ¬ k > 63 := by omega
          go_wp2_with fail
          refine (num8_any S.out _).mono ?_
          rintro e wn15 ⟨rfl, s⟩
          replace S := hid s
          clear s
          have SB := hid (S.out.alloc (.cells #[.int .i64 1, .int .i64 (a), .string ⟨#[]⟩, .slice none 0 0, .slice none 0 0, .slice none 0 0, .int .i64 1, .int .i64 (SH), .string ⟨#[]⟩, .slice none 0 0, .slice none 0 0, .slice none 0 0] 35))
          have HA := hid (do_mul HQ.out SB.out (a) (SH) (in_N _ _) (in_N _ _) FA.out FSH.out  (z := M) HM2.out FM.out)
          clear S
          go_wp2_with fail
          refine HA.out.mono ?_
          rintro e w16 ⟨ia16, ic16, ra16, rc16, ba16, bc16, h16, rfl, l, s, q⟩
          obtain ⟨xb16, HXB16⟩ : ∃ xb, Hid (w16.heap.size = xb) := ⟨_, hid rfl⟩
          have S := hid (s.allocAt (k := w16.heap.size) (.cells #[.int .i64 1, .int .i64 (M), .string ⟨#[]⟩, .slice ia16 0 ic16, .slice ra16 0 rc16, .slice ba16 0 bc16] 35) rfl).swap
          rw [HXB16.out] at S
          replace HQ := hid (HQ.out.mono l)
          replace HL := hid (HL.out.trans l)
          have HR16 := hid q
          replace HR3 := hid (TIn.mono l _ HR3.out)
          replace HR4 := hid (TIn.mono l _ HR4.out)
          replace HR6 := hid (TIn.mono l _ HR6.out)
          replace HR9 := hid (TIn.mono l _ HR9.out)
          replace HR10 := hid (TIn.mono l _ HR10.out)
          replace HR11 := hid (TIn.mono l _ HR11.out)
          replace HR13 := hid (TIn.mono l _ HR13.out)
          clear s l q SB HA
          clear k0 k63 sh1 sh2 kw kn kn2
          have c131 := S.out.rot3.cell 1
          simp only [List.getElem?_toArray, List.getElem?_cons_succ, List.getElem?_cons_zero] at c131
          have c161 := S.out.swap.cell 1
          simp only [List.getElem?_toArray, List.getElem?_cons_succ, List.getElem?_cons_zero] at c161
          have hx := HXB16.out
          have HA := hid (awake8 HQ.out S.out)
          go_wp2_with fail
          refine HA.out.mono ?_
          rintro e w9 ⟨h9, rfl, l9, s9⟩
          go_wp2_with fail
          go_ret
          exact ⟨rfl, s9.archBelow (HL.out.trans l9)⟩
        · have h1 : (R != 0) = true := by simpa using h0
          have h2 : ¬ R = 0 := by simpa using h0
          have h3 : ¬ R < 0 := by simpa using hs1
          have h4 : ¬ a < 0 := by simpa using hs2
          go_wp2_with fail
          clear hx c111 c91 h0 hs1 hs2 h1 h2 h3 h4
          refine (place_any s 63 _ (by decide) (by decide)).mono ?_
          rintro e _ ⟨rfl, rfl⟩
          rw [HK.out]
          go_wp2_with fail
          try rw [HXB11.out]
          refine (num8_any S.out _).mono ?_
          rintro e wf ⟨rfl, s⟩
          replace S := hid s
          clear s
          go_wp2_with fail
          refine (num8_any S.out _).mono ?_
          rintro e wn12 ⟨rfl, s⟩
          replace S := hid s
          clear s
          have SB := hid (S.out.alloc (.cells #[.int .i64 1, .int .i64 (a), .string ⟨#[]⟩, .slice none 0 0, .slice none 0 0, .slice none 0 0, .int .i64 1, .int .i64 (k), .string ⟨#[]⟩, .slice none 0 0, .slice none 0 0, .slice none 0 0] 35))
          have HA := hid (do_bsl HQ.out SB.out (a) (k) (in_N _ _) (in_N _ _) FA.out FK.out K0.out K63.out (z := M) HM.out FM.out)
          clear S
          go_wp2_with fail
          refine HA.out.mono ?_
          rintro e w13 ⟨ia13, ic13, ra13, rc13, ba13, bc13, h13, rfl, l, s, q⟩
          obtain ⟨xb13, HXB13⟩ : ∃ xb, Hid (w13.heap.size = xb) := ⟨_, hid rfl⟩
          have S := hid (s.allocAt (k := w13.heap.size) (.cells #[.int .i64 1, .int .i64 (M), .string ⟨#[]⟩, .slice ia13 0 ic13, .slice ra13 0 rc13, .slice ba13 0 bc13] 35) rfl).swap
          rw [HXB13.out] at S
          replace HQ := hid (HQ.out.mono l)
          replace HL := hid (HL.out.trans l)
          have HR13 := hid q
          replace HR3 := hid (TIn.mono l _ HR3.out)
          replace HR4 := hid (TIn.mono l _ HR4.out)
          replace HR6 := hid (TIn.mono l _ HR6.out)
          replace HR9 := hid (TIn.mono l _ HR9.out)
          replace HR10 := hid (TIn.mono l _ HR10.out)
          replace HR11 := hid (TIn.mono l _ HR11.out)
          clear s l q SB HA
          go_wp2_with fail
          refine (num8_any S.out _).mono ?_
          rintro e wn14 ⟨rfl, s⟩
          replace S := hid s
          clear s
          rw [HXB13.out]
          have k0 : 0 ≤ k := K0.out
          have k63 : k ≤ 63 := K63.out
          have sh1 : wrap64 (2 ^ k.toNat) = SH := HSH.out
          have sh2 : IntKind.i64.wrap (2 ^ k.toNat) = SH := (wrapi _).trans HSH.out
          have kw : IntKind.u64.wrap k = k := by rw [IntKind.wrap_u64]; omega
          have kn : ¬ k < 0 := by omega
          have kn2 : ¬ k > 63 := by omega
          go_wp2_with fail
          refine (num8_any S.out _).mono ?_
          rintro e wn15 ⟨rfl, s⟩
          replace S := hid s
          clear s
          have SB := hid (S.out.alloc (.cells #[.int .i64 1, .int .i64 (a), .string ⟨#[]⟩, .slice none 0 0, .slice none 0 0, .slice none 0 0, .int .i64 1, .int .i64 (SH), .string ⟨#[]⟩, .slice none 0 0, .slice none 0 0, .slice none 0 0] 35))
          have HA := hid (do_mul HQ.out SB.out (a) (SH) (in_N _ _) (in_N _ _) FA.out FSH.out  (z := M) HM2.out FM.out)
          clear S
          go_wp2_with fail
          refine HA.out.mono ?_
          rintro e w16 ⟨ia16, ic16, ra16, rc16, ba16, bc16, h16, rfl, l, s, q⟩
          obtain ⟨xb16, HXB16⟩ : ∃ xb, Hid (w16.heap.size = xb) := ⟨_, hid rfl⟩
          have S := hid (s.allocAt (k := w16.heap.size) (.cells #[.int .i64 1, .int .i64 (M), .string ⟨#[]⟩, .slice ia16 0 ic16, .slice ra16 0 rc16, .slice ba16 0 bc16] 35) rfl).swap
          rw [HXB16.out] at S
          replace HQ := hid (HQ.out.mono l)
          replace HL := hid (HL.out.trans l)
          have HR16 := hid q
          replace HR3 := hid (TIn.mono l _ HR3.out)
          replace HR4 := hid (TIn.mono l _ HR4.out)
          replace HR6 := hid (TIn.mono l _ HR6.out)
          replace HR9 := hid (TIn.mono l _ HR9.out)
          replace HR10 := hid (TIn.mono l _ HR10.out)
          replace HR11 := hid (TIn.mono l _ HR11.out)
          replace HR13 := hid (TIn.mono l _ HR13.out)
          clear s l q SB HA
          clear k0 k63 sh1 sh2 kw kn kn2
          have c131 := S.out.rot3.cell 1
          simp only [List.getElem?_toArray, List.getElem?_cons_succ, List.getElem?_cons_zero] at c131
          have c161 := S.out.swap.cell 1
          simp only [List.getElem?_toArray, List.getElem?_cons_succ, List.getElem?_cons_zero] at c161
          have hx := HXB16.out
          have HA := hid (awake8 HQ.out S.out)
          go_wp2_with fail
          refine HA.out.mono ?_
          rintro e w9 ⟨h9, rfl, l9, s9⟩
          go_wp2_with fail
          go_ret
          exact ⟨rfl, s9.archBelow (HL.out.trans l9)⟩
        · have h1 : (R != 0) = true := by simpa using h0
          have h2 : ¬ R = 0 := by simpa using h0
          have h3 : R < 0 := by simpa using hs1
          have h4 : a < 0 := by simpa using hs2
          go_wp2_with fail
          clear hx c111 c91 h0 hs1 hs2 h1 h2 h3 h4
          refine (place_any s 63 _ (by decide) (by decide)).mono ?_
          rintro e _ ⟨rfl, rfl⟩
          rw [HK.out]
          go_wp2_with fail
          try rw [HXB11.out]
          refine (num8_any S.out _).mono ?_
          rintro e wf ⟨rfl, s⟩
          replace S := hid s
          clear s
          go_wp2_with fail
          refine (num8_any S.out _).mono ?_
          rintro e wn12 ⟨rfl, s⟩
          replace S := hid s
          clear s
          have SB := hid (S.out.alloc (.cells #[.int .i64 1, .int .i64 (a), .string ⟨#[]⟩, .slice none 0 0, .slice none 0 0, .slice none 0 0, .int .i64 1, .int .i64 (k), .string ⟨#[]⟩, .slice none 0 0, .slice none 0 0, .slice none 0 0] 35))
          have HA := hid (do_bsl HQ.out SB.out (a) (k) (in_N _ _) (in_N _ _) FA.out FK.out K0.out K63.out (z := M) HM.out FM.out)
          clear S
          go_wp2_with fail
          refine HA.out.mono ?_
          rintro e w13 ⟨ia13, ic13, ra13, rc13, ba13, bc13, h13, rfl, l, s, q⟩
          obtain ⟨xb13, HXB13⟩ : ∃ xb, Hid (w13.heap.size = xb) := ⟨_, hid rfl⟩
          have S := hid (s.allocAt (k := w13.heap.size) (.cells #[.int .i64 1, .int .i64 (M), .string ⟨#[]⟩, .slice ia13 0 ic13, .slice ra13 0 rc13, .slice ba13 0 bc13] 35) rfl).swap
          rw [HXB13.out] at S
          replace HQ := hid (HQ.out.mono l)
          replace HL := hid (HL.out.trans l)
          have HR13 := hid q
          replace HR3 := hid (TIn.mono l _ HR3.out)
          replace HR4 := hid (TIn.mono l _ HR4.out)
          replace HR6 := hid (TIn.mono l _ HR6.out)
          replace HR9 := hid (TIn.mono l _ HR9.out)
          replace HR10 := hid (TIn.mono l _ HR10.out)
          replace HR11 := hid (TIn.mono l _ HR11.out)
          clear s l q SB HA
          go_wp2_with fail
          refine (num8_any S.out _).mono ?_
          rintro e wn14 ⟨rfl, s⟩
          replace S := hid s
          clear s
          rw [HXB13.out]
          have k0 : 0 ≤ k := K0.out
          have k63 : k ≤ 63 := K63.out
          have sh1 : wrap64 (2 ^ k.toNat) = SH := HSH.out
          have sh2 : IntKind.i64.wrap (2 ^ k.toNat) = SH := (wrapi _).trans HSH.out
          have kw : IntKind.u64.wrap k = k := by rw [IntKind.wrap_u64]; omega
          have kn : ¬ k < 0 := by omega
          have kn2 : ¬ k > 63 := by omega
          go_wp2_with fail
          refine (num8_any S.out _).mono ?_
          rintro e wn15 ⟨rfl, s⟩
          replace S := hid s
          clear s
          have SB := hid (S.out.alloc (.cells #[.int .i64 1, .int .i64 (a), .string ⟨#[]⟩, .slice none 0 0, .slice none 0 0, .slice none 0 0, .int .i64 1, .int .i64 (SH), .string ⟨#[]⟩, .slice none 0 0, .slice none 0 0, .slice none 0 0] 35))
          have HA := hid (do_mul HQ.out SB.out (a) (SH) (in_N _ _) (in_N _ _) FA.out FSH.out  (z := M) HM2.out FM.out)
          clear S
          go_wp2_with fail
          refine HA.out.mono ?_
          rintro e w16 ⟨ia16, ic16, ra16, rc16, ba16, bc16, h16, rfl, l, s, q⟩
          obtain ⟨xb16, HXB16⟩ : ∃ xb, Hid (w16.heap.size = xb) := ⟨_, hid rfl⟩
          have S := hid (s.allocAt (k := w16.heap.size) (.cells #[.int .i64 1, .int .i64 (M), .string ⟨#[]⟩, .slice ia16 0 ic16, .slice ra16 0 rc16, .slice ba16 0 bc16] 35) rfl).swap
          rw [HXB16.out] at S
          replace HQ := hid (HQ.out.mono l)
          replace HL := hid (HL.out.trans l)
          have HR16 := hid q
          replace HR3 := hid (TIn.mono l _ HR3.out)
          replace HR4 := hid (TIn.mono l _ HR4.out)
          replace HR6 := hid (TIn.mono l _ HR6.out)
          replace HR9 := hid (TIn.mono l _ HR9.out)
          replace HR10 := hid (TIn.mono l _ HR10.out)
          replace HR11 := hid (TIn.mono l _ HR11.out)
          replace HR13 := hid (TIn.mono l _ HR13.out)
          clear s l q SB HA
          clear k0 k63 sh1 sh2 kw kn kn2
          have c131 := S.out.rot3.cell 1
          simp only [List.getElem?_toArray, List.getElem?_cons_succ, List.getElem?_cons_zero] at c131
          have c161 := S.out.swap.cell 1
          simp only [List.getElem?_toArray, List.getElem?_cons_succ, List.getElem?_cons_zero] at c161
          have hx := HXB16.out
          have HA := hid (awake8 HQ.out S.out)
          go_wp2_with fail
          refine HA.out.mono ?_
          rintro e w9 ⟨h9, rfl, l9, s9⟩
          go_wp2_with fail
          go_ret
          exact ⟨rfl, s9.archBelow (HL.out.trans l9)⟩
#print axioms sums_walk
end Go.Proofs.YtlgogflhjpcmlaaDoor
