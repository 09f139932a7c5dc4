/-
  TreeDeep: terms in one another: what tree.Right says of them; the law's own walk.
-/
import Derived.Test.YteaabbghnfideaaDoorTRight
import Derived.Test.YteaabbghnfideaaDoorErrB
import Derived.Test.YteaabbghnfideaaDoorPlace
import Derived.Test.YteaabbghnfideaaDoorAwake
namespace Go.Proofs.YteaabbghnfideaaDoor
open Go.RowKit
set_option maxHeartbeats 2000000

def deepT (b : Bool) : Nat → T
  | 0 => tI 1
  | m + 1 => .mk (if b then 7 else 5) 0 ByteArray.empty [deepT b m] [] []
theorem deep_flds (b : Bool) (m : Nat) : flds (deepT b m) = true := by
  cases m with
  | zero => rfl
  | succ m => cases b <;> rfl
theorem deep_add (b : Bool) (m : Nat) : addB (deepT b m) = 0 := by
  cases m with
  | zero => rfl
  | succ m => cases b <;> rfl
theorem deep_ok (b : Bool) (m : Nat) : TOk (deepT b m) := by
  induction m with
  | zero => simp [deepT, tI, TOk, LOk, fits]
  | succ m ih =>
    cases b <;> simp [deepT, TOk, LOk, fits] <;> exact ih
theorem deep_chk (b : Bool) : ∀ (m d p : Nat), p + m + 1 ≤ 65536 → d ≤ 201 → chk d (deepT b m) p 0 = if d + m ≤ 200 then ((p + m + 1, 0), none) else ((p + (201 - d) + 1, 0), some (p + (201 - d), 2)) := by
  intro m
  induction m with
  | zero =>
    intro d p hp hd
    rw [chk_eq]
    by_cases h : d > 200
    · have h0 : chk0 d (deepT b 0) p 0 = some (p, 2) := by unfold chk0; rw [if_pos (.inr h)]
      rw [h0, if_neg (by omega), deep_add]
      have : 201 - d = 0 := by omega
      simp [this]
    · have h0 : chk0 d (deepT b 0) p 0 = none := by unfold chk0; rw [if_neg (by rw [deep_add]; omega), if_neg (by rw [deep_flds]; simp)]
      rw [h0, if_pos (by omega), deep_add]
      rfl
  | succ m ih =>
    intro d p hp hd
    rw [chk_eq]
    by_cases h : d > 200
    · have h0 : chk0 d (deepT b (m + 1)) p 0 = some (p, 2) := by unfold chk0; rw [if_pos (.inr h)]
      rw [h0, if_neg (by omega), deep_add]
      have : 201 - d = 0 := by omega
      simp [this]
    · have h0 : chk0 d (deepT b (m + 1)) p 0 = none := by unfold chk0; rw [if_neg (by rw [deep_add]; omega), if_neg (by rw [deep_flds]; simp)]
      rw [h0, deep_add]
      simp only [deepT, T.is, T.rs, chkL]
      rw [ih (d + 1) (p + 1) (by omega) (by omega)]
      by_cases h2 : d + 1 + m ≤ 200
      · rw [if_pos h2, if_pos (by omega)]
        simp only [Prod.mk.injEq, and_true]
        omega
      · rw [if_neg h2, if_neg (by omega)]
        simp only [Prod.mk.injEq, Option.some.injEq, and_true]
        omega
theorem deep_right (b : Bool) (m : Nat) (hm : m ≤ 60000) : rightOf (deepT b m) = if m < 200 then none else some (200, 2) := by
  unfold rightOf
  rw [deep_chk b m 1 0 (by omega) (by omega)]
  by_cases h : m < 200
  · rw [if_pos (by omega), if_pos h]
  · rw [if_neg (by omega), if_neg h]
set_option maxRecDepth 100000 in
theorem deep_walk {W : World} (n : Int) (b : Bool) : Calls Tryd.prog 6 #[.int .i64 n, .bool b] W fun e w' => e = .returned (.bool true) ∧ Below W.heap.size W w' := by
  have h10 : 0 ≤ n % 10 ∧ n % 10 < 10 := ⟨Int.emod_nonneg _ (by omega), Int.emod_lt_of_pos _ (by omega)⟩
  obtain ⟨q, HQ⟩ : ∃ q : Nat, Hid (n % 10 = (q : Int)) := ⟨(n % 10).toNat, hid (by omega)⟩
  have hq : q < 10 := by have := HQ.out; omega
  have hpl := place_any n 10 W (by omega) (by omega)
  rw [HQ.out] at hpl
  have S1 := hid ((Sat.startArch W).alloc (.cells (tVals (tI 1) none 0 none 0 none 0).toArray 25))
  unfold tVals at S1
  clear h10
  go_enter Tryd.func6, Tryd.ntmps6
  go_wp2_with fail
  refine hpl.mono ?_
  rintro e w1 ⟨rfl, rfl⟩
  go_wp2_with fail
  go_loopw [7, 8] (fun iv _ wr => ∃ (j : Nat) (a : Option Addr) (li ci : Nat) (h : Nat → Option Obj), iv = .int .i64 (j + 1 : Nat) ∧ j + 1 ≤ 195 + q ∧ Hid (TIn h (deepT b j) [.int .i64 (deepT b j).k, .int .i64 (deepT b j).n, .string ByteArray.empty, .slice a li ci, .slice none 0 0, .slice none 0 0]) ∧ Hid (Le (heapOf W) h) ∧ Hid (Sat W wr (blk W.heap.size (.cells #[.int .i64 (deepT b j).k, .int .i64 (deepT b j).n, .string ByteArray.empty, .slice a li ci, .slice none 0 0, .slice none 0 0] 25 (0, 0)) :: [arch h]))) (fun iv _ _ => 195 + q - (intOf iv).toNat)
  case atStart => exact ⟨0, none, 0, 0, heapOf W, rfl, by omega, hid (in_I _ 1), hid (Le.refl _), S1⟩
  case round =>
    obtain ⟨j, a, li, ci, h, rfl, hj, HIN, HLE, S⟩ := hrel
    clear S1
    by_cases hlt : j + 1 < 195 + q
    · cases b
      · have hlb := S.out.lt
        have hcs := fun i => S.out.cell i
        have c0 := hcs 0
        have c1 := hcs 1
        have c2 := hcs 2
        have c3 := hcs 3
        have c4 := hcs 4
        have c5 := hcs 5
        have f0 := S.out.free 0
        have f1 := S.out.free 1
        have f2 := S.out.free 2
        have f3 := S.out.free 3
        have f4 := S.out.free 4
        have f5 := S.out.free 5
        simp only [List.getElem?_toArray, List.getElem?_cons_zero, List.getElem?_cons_succ] at c0 c1 c2 c3 c4 c5
        clear hcs
        go_wp2_with fail
        have s1 := ((((((S.out.set 0 (.int .i64 5)).set 1 (.int .i64 0)).set 2 (.string ByteArray.empty)).set 3 (.slice (some ⟨wr.heap.size + 1, 0, none⟩) 1 1)).set 4 (.slice none 0 0)).set 5 (.slice none 0 0))
        have s2 := ((s1.alloc' (.cells #[.int .i64 5, .int .i64 0, .string ByteArray.empty, .slice (some ⟨wr.heap.size + 1, 0, none⟩) 1 1, .slice none 0 0, .slice none 0 0] 25)).allocAt (k := wr.heap.size + 1) (.cells #[.int .i64 (deepT false j).k, .int .i64 (deepT false j).n, .string ByteArray.empty, .slice a li ci, .slice none 0 0, .slice none 0 0] 25) (by simp)).sel [0, 2, 1]
        obtain ⟨h2, l2, r2, s3⟩ := store_lit s2
        have q2 : LIn h2 [deepT false j] (some ⟨wr.heap.size + 1, 0, none⟩) 0 := LIn.of_rd (vss := [[.int .i64 (deepT false j).k, .int .i64 (deepT false j).n, .string ByteArray.empty, .slice a li ci, .slice none 0 0, .slice none 0 0]]) (by simp only [TsIn]; exact ⟨_, _, rfl, HIN.out.mono l2, rfl⟩) (by simpa using r2)
        refine ⟨⟨j + 1, some ⟨wr.heap.size + 1, 0, none⟩, 1, 1, h2, by go_num, by omega, hid (TIn.of (t := deepT false (j + 1)) q2 (LIn.nil _ _) (RdIn.nil _ _) (by simp [deepT, T.is, T.rs, T.bs, maxLen])), hid (HLE.out.trans l2), hid s3.swap⟩, by simp [intOf]; omega⟩
      · have hlb := S.out.lt
        have hcs := fun i => S.out.cell i
        have c0 := hcs 0
        have c1 := hcs 1
        have c2 := hcs 2
        have c3 := hcs 3
        have c4 := hcs 4
        have c5 := hcs 5
        have f0 := S.out.free 0
        have f1 := S.out.free 1
        have f2 := S.out.free 2
        have f3 := S.out.free 3
        have f4 := S.out.free 4
        have f5 := S.out.free 5
        simp only [List.getElem?_toArray, List.getElem?_cons_zero, List.getElem?_cons_succ] at c0 c1 c2 c3 c4 c5
        clear hcs
        go_wp2_with fail
        have s1 := ((((((S.out.set 0 (.int .i64 7)).set 1 (.int .i64 0)).set 2 (.string ByteArray.empty)).set 3 (.slice (some ⟨wr.heap.size + 1, 0, none⟩) 1 1)).set 4 (.slice none 0 0)).set 5 (.slice none 0 0))
        have s2 := ((s1.alloc' (.cells #[.int .i64 7, .int .i64 0, .string ByteArray.empty, .slice (some ⟨wr.heap.size + 1, 0, none⟩) 1 1, .slice none 0 0, .slice none 0 0] 25)).allocAt (k := wr.heap.size + 1) (.cells #[.int .i64 (deepT true j).k, .int .i64 (deepT true j).n, .string ByteArray.empty, .slice a li ci, .slice none 0 0, .slice none 0 0] 25) (by simp)).sel [0, 2, 1]
        obtain ⟨h2, l2, r2, s3⟩ := store_lit s2
        have q2 : LIn h2 [deepT true j] (some ⟨wr.heap.size + 1, 0, none⟩) 0 := LIn.of_rd (vss := [[.int .i64 (deepT true j).k, .int .i64 (deepT true j).n, .string ByteArray.empty, .slice a li ci, .slice none 0 0, .slice none 0 0]]) (by simp only [TsIn]; exact ⟨_, _, rfl, HIN.out.mono l2, rfl⟩) (by simpa using r2)
        refine ⟨⟨j + 1, some ⟨wr.heap.size + 1, 0, none⟩, 1, 1, h2, by go_num, by omega, hid (TIn.of (t := deepT true (j + 1)) q2 (LIn.nil _ _) (RdIn.nil _ _) (by simp [deepT, T.is, T.rs, T.bs, maxLen])), hid (HLE.out.trans l2), hid s3.swap⟩, by simp [intOf]; omega⟩
    · obtain rfl : j = 194 + q := by omega
      have hcs := fun i => S.out.cell i
      have c0 := hcs 0
      have c1 := hcs 1
      have c2 := hcs 2
      have c3 := hcs 3
      have c4 := hcs 4
      have c5 := hcs 5
      simp only [List.getElem?_toArray, List.getElem?_cons_zero, List.getElem?_cons_succ] at c0 c1 c2 c3 c4 c5
      have HR := hid (right_t S.out.swap (deepT b (194 + q)) _ HIN.out (deep_ok b _))
      have hdr := deep_right b (194 + q) (by omega)
      have HDR := hid hdr
      clear hcs hdr
      go_wp2_with fail
      refine HR.out.mono ?_
      rintro e w2 ⟨v, h2, rfl, l2, e2, s2⟩
      rw [HDR.out] at e2
      have HL2 := hid (HLE.out.trans l2)
      have S2 := hid s2
      clear c0 c1 c2 c3 c4 c5 S HR l2 s2
      by_cases h5 : q ≤ 5
      · rw [if_pos (by omega)] at e2
        have e2 : v = .nilIface := e2
        subst e2
        go_wp2_with fail
        refine (awake_any S2.out).mono ?_
        rintro e w3 ⟨h3, rfl, l3, s3⟩
        have HL3 := hid (HL2.out.trans l3)
        have S3 := hid s3
        clear l3 s3 S2
        go_wp2_with fail
        go_ret
        exact ⟨rfl, S3.out.archBelow HL3.out⟩
      · rw [if_neg (by omega)] at e2
        have e2 : ErrIn h2 v [(tTerm, 200)] 2 := e2
        obtain ⟨h3, l3, x3, s3⟩ := fault_in (op := tTerm) (n := 200) (k := 2) ((S2.out.alloc (.cells #[.string tTerm, .int .i64 200, .iface 44 (.int .i64 2)] 46)))
        have HE := hid (err_err s3 (e2.mono l3) x3 (by decide) (by simp))
        have HL3 := hid (HL2.out.trans l3)
        unfold tTerm at HE
        clear l3 s3 S2 x3 e2
        go_wp2_with fail
        refine HE.out.mono ?_
        rintro e w3 ⟨rfl, s4⟩
        have S4 := hid s4
        clear s4 HE
        go_wp2_with fail
        refine (awake_any S4.out).mono ?_
        rintro e w5 ⟨h5, rfl, l5, s5⟩
        have HL5 := hid (HL3.out.trans l5)
        have S5 := hid s5
        clear l5 s5 S4
        go_wp2_with fail
        go_ret
        exact ⟨rfl, S5.out.archBelow HL5.out⟩
#print axioms deep_walk
end Go.Proofs.YteaabbghnfideaaDoor

