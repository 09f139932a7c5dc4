/-
  TreeParts: a list of numbers and a binary: what tree.Right says of them; the law's own walk.
-/
import Derived.Test.YteaabbghnfideaaDoorTRight
import Derived.Test.YteaabbghnfideaaDoorErrB
import Derived.Test.YteaabbghnfideaaDoorPlace
import Derived.Test.YteaabbghnfideaaDoorMake
import Derived.Test.YteaabbghnfideaaDoorAwake
namespace Go.Proofs.YteaabbghnfideaaDoor
open Go.RowKit
set_option maxHeartbeats 2000000

def ints (k : Nat) : List T := (List.range k).map fun (i : Nat) => tI i
def binT (b : Nat) : T := .mk 8 0 ByteArray.empty [] [] (List.replicate b 0)
def partsT (k b : Nat) : T := .mk 7 0 ByteArray.empty (ints k ++ [binT b]) [] []
theorem ints_succ (k : Nat) : ints (k + 1) = ints k ++ [tI k] := by unfold ints; rw [List.range_succ, List.map_append]; rfl
theorem ints_len (k : Nat) : (ints k).length = k := by simp [ints]
theorem int_chk (d : Nat) (n : Int) (p b : Nat) (hp : p + 1 + b ≤ 65536) (hd : d ≤ 200) : chk d (tI n) p b = ((p + 1, b), none) := by
  have h0 : chk0 d (tI n) p b = none := by
    unfold chk0
    have ha : addB (tI n) = 0 := rfl
    have hf : flds (tI n) = true := rfl
    rw [if_neg (by rw [ha]; omega), if_neg (by rw [hf]; simp)]
  rw [chk_eq, h0]
  rfl
theorem ints_chk (d : Nat) (hd : d ≤ 200) : ∀ (k p : Nat), p + k ≤ 65536 → chkL d (ints k) p 0 = ((p + k, 0), none)
  | 0, p, h => by simp [ints, chkL]
  | k + 1, p, h => by
    rw [ints_succ, chkL_append, ints_chk d hd k p (by omega)]
    simp only [chkL]
    rw [int_chk d k (p + k) 0 (by omega) hd]
    rfl
theorem bin_chk (d b p : Nat) (hd : d ≤ 200) : (chk d (binT b) p 0).2 = if p + 1 + b ≤ 65536 then none else some (p, 2) := by
  have ha : addB (binT b) = b := by unfold addB; simp [binT, T.k, T.bs]
  have hf : flds (binT b) = true := by unfold flds fldB; simp [binT, T.k, T.n, T.nm, T.is, T.rs]
  rw [chk_eq]
  by_cases h : p + 1 + b ≤ 65536
  · have h0 : chk0 d (binT b) p 0 = none := by
      unfold chk0
      rw [if_neg (by rw [ha]; omega), if_neg (by rw [hf]; simp)]
    rw [h0, if_pos h]
    rfl
  · have h0 : chk0 d (binT b) p 0 = some (p, 2) := by
      unfold chk0
      rw [if_pos (by rw [ha]; omega)]
    rw [h0, if_neg h]
theorem parts_right (k b : Nat) (hk : k ≤ 60000) : rightOf (partsT k b) = if 2 + k + b ≤ 65536 then none else some (k + 1, 2) := by
  unfold rightOf
  have hf : flds (partsT k b) = true := by unfold flds fldB; simp [partsT, T.k, T.n, T.nm, T.is, T.rs, T.bs]
  have h0 : chk0 1 (partsT k b) 0 0 = none := by
    unfold chk0
    have ha : addB (partsT k b) = 0 := rfl
    rw [if_neg (by rw [ha]; omega), if_neg (by rw [hf]; simp)]
  rw [chk_eq, h0]
  have ha : addB (partsT k b) = 0 := rfl
  rw [ha]
  simp only [partsT, T.is, T.rs]
  rw [chkL_append, ints_chk 2 (by omega) k 1 (by omega)]
  simp only [chkL]
  have hb := bin_chk 2 b (1 + k) (by omega)
  cases hc : chk 2 (binT b) (1 + k) 0 with
  | mk s e =>
    rw [hc] at hb
    simp only at hb
    by_cases h : 2 + k + b ≤ 65536
    · rw [if_pos (by omega)] at hb
      subst hb
      rw [if_pos h]
    · rw [if_neg (by omega)] at hb
      subst hb
      rw [if_neg h]
      simp only [Option.some.injEq, Prod.mk.injEq, and_true]
      omega
theorem ints_ok (k : Nat) (hk : k ≤ 60000) : ∀ t ∈ ints k, TOk t := by
  intro t ht
  simp only [ints, List.mem_map, List.mem_range] at ht
  obtain ⟨i, hi, rfl⟩ := ht
  simp [tI, TOk, LOk, fits]
  omega
theorem bin_ok (b : Nat) (hb : b ≤ 70000) : TOk (binT b) := by
  simp [binT, TOk, LOk, fits]
  omega
theorem parts_ok (k b : Nat) (hk : k ≤ 60000) (hb : b ≤ 70000) : TOk (partsT k b) := by
  have h1 : LOk (ints k ++ [binT b]) := LOk.of fun t ht => by
    rcases List.mem_append.1 ht with h | h
    · exact ints_ok k hk t h
    · simp only [List.mem_singleton] at h
      subst h
      exact bin_ok b hb
  simp only [partsT, TOk]
  refine ⟨by simp [fits], by simp [fits], by decide, by simp [ints_len]; omega, by simp, by simp, by simp, h1, by simp [LOk]⟩
def ivss (k : Nat) : List (List Value) := (List.range k).map fun (i : Nat) => [.int .i64 1, .int .i64 i, .string ByteArray.empty, .slice none 0 0, .slice none 0 0, .slice none 0 0]
theorem ivss_succ (k : Nat) : (ivss (k + 1)).flatten = (ivss k).flatten ++ [.int .i64 1, .int .i64 k, .string ByteArray.empty, .slice none 0 0, .slice none 0 0, .slice none 0 0] := by
  unfold ivss
  rw [List.range_succ, List.map_append, List.flatten_append]
  simp
theorem ints_in (h : Nat → Option Obj) : ∀ k : Nat, TsIn h (ints k) (ivss k)
  | 0 => by simp [ints, ivss, TsIn]
  | k + 1 => by
    rw [ints_succ]
    have : ivss (k + 1) = ivss k ++ [[.int .i64 1, .int .i64 k, .string ByteArray.empty, .slice none 0 0, .slice none 0 0, .slice none 0 0]] := by
      unfold ivss
      rw [List.range_succ, List.map_append]
      rfl
    rw [this]
    exact TsIn.snoc (ints_in h k) (in_I h k)
theorem one6 (x y : Int) (a : Option Addr) (n c : Nat) : ∀ v ∈ ([.int .i64 x, .int .i64 y, .string ByteArray.empty, .slice none 0 0, .slice none 0 0, .slice a n c] : List Value), v.oneCell' = true := by
  intro v hv
  simp only [List.mem_cons, List.not_mem_nil, or_false] at hv
  rcases hv with rfl | rfl | rfl | rfl | rfl | rfl <;> rfl
theorem zero8 : (Tryd.prog.info? 5).map (fun i => (i.zero, i.size, i.bytes)) = some (some (.int .u8 0), 1, 1) := by kernel_rfl
theorem parts_in {h : Nat → Option Obj} {g a' : Option Addr} {c' : Nat} (k b : Nat) (r1 : RdIn h g (List.replicate b (.int .u8 0))) (r2 : RdIn h a' ((ivss k).flatten ++ [.int .i64 8, .int .i64 0, .string ByteArray.empty, .slice none 0 0, .slice none 0 0, .slice g b b])) (hc : k + 1 ≤ c' ∧ c' ≤ maxLen) (hb : b ≤ maxLen) :
    TIn h (partsT k b) [.int .i64 7, .int .i64 0, .string ByteArray.empty, .slice a' (k + 1) c', .slice none 0 0, .slice none 0 0] := by
  have hu : u8s (binT b).bs = List.replicate b (.int .u8 0) := by simp [u8s, binT, T.bs]
  have q := TIn.of (h := h) (t := binT b) (ia := none) (ic := 0) (ra := none) (rc := 0) (ba := g) (bc := b) (LIn.nil _ _) (LIn.nil _ _) (by rw [hu]; exact r1) ⟨by simp [binT, T.is], by simp [binT, T.rs], by simp [binT, T.bs], Nat.zero_le _, Nat.zero_le _, hb⟩
  have hv : tVals (binT b) none 0 none 0 g b = [.int .i64 8, .int .i64 0, .string ByteArray.empty, .slice none 0 0, .slice none 0 0, .slice g b b] := by
    simp [tVals, binT, T.k, T.n, T.nm, T.is, T.rs, T.bs]
  rw [hv] at q
  have qL : LIn h (ints k ++ [binT b]) a' 0 := LIn.of_rd (vss := ivss k ++ [[.int .i64 8, .int .i64 0, .string ByteArray.empty, .slice none 0 0, .slice none 0 0, .slice g b b]]) (TsIn.snoc (ints_in h _) q) (by rw [List.flatten_append]; simpa using r2)
  have q0 := TIn.of (h := h) (t := partsT k b) (ia := a') (ic := c') (ra := none) (rc := 0) (ba := none) (bc := 0) qL (LIn.nil _ _) (RdIn.nil _ _) ⟨by simp [partsT, T.is, ints_len]; omega, by simp [partsT, T.rs], by simp [partsT, T.bs], hc.2, Nat.zero_le _, Nat.zero_le _⟩
  have hv0 : tVals (partsT k b) a' c' none 0 none 0 = [.int .i64 7, .int .i64 0, .string ByteArray.empty, .slice a' (k + 1) c', .slice none 0 0, .slice none 0 0] := by
    simp [tVals, partsT, T.k, T.n, T.nm, T.is, T.rs, T.bs, ints_len]
  rw [hv0] at q0
  exact q0
set_option maxRecDepth 100000 in
theorem parts_walk {W : World} (n m : Int) : Calls Tryd.prog 7 #[.int .i64 n, .int .i64 m] W fun e w' => e = .returned (.bool true) ∧ Below W.heap.size W w' := by
  obtain ⟨q, HQ⟩ : ∃ q : Nat, Hid (n % 1000 = (q : Int)) := ⟨(n % 1000).toNat, hid (by omega)⟩
  have hq : q < 1000 := by have := HQ.out; omega
  obtain ⟨r, HR⟩ : ∃ r : Nat, Hid (m % 8 = (r : Int)) := ⟨(m % 8).toNat, hid (by omega)⟩
  have hr : r < 8 := by have := HR.out; omega
  have hpl := place_any n 1000 W (by omega) (by omega)
  have hpm := place_any m 8 W (by omega) (by omega)
  rw [HQ.out] at hpl
  rw [HR.out] at hpm
  have S1 := hid ((Sat.startArch W).alloc (.cells #[.int .i64 7, .int .i64 0, .string ByteArray.empty, .slice none 0 0, .slice none 0 0, .slice none 0 0] 25))
  have S2 : Hid (Sat W _ (blk W.heap.size (.cells #[.int .i64 7, .int .i64 0, .string ByteArray.empty, .slice none 0 0, .slice none 0 0, .slice none 0 0] 25 (0, 0)) :: row 25 6 none 0 0 (ivss 0).flatten :: [arch (heapOf W)])) := hid ((S1.out.rowNil (e := 25) (size := 6)).swap)
  clear S1
  go_enter Tryd.func7, Tryd.ntmps7
  go_wp2_with fail
  refine hpl.mono ?_
  rintro e w1 ⟨rfl, rfl⟩
  go_wp2_with fail
  refine hpm.mono ?_
  rintro e w1 ⟨rfl, rfl⟩
  go_wp2_with fail
  go_loopw [8] (fun iv wr => ∃ (j : Nat) (a : Option Addr) (c : Nat), iv = .int .i64 j ∧ j ≤ 1 + q ∧ Hid (Sat W wr (blk W.heap.size (.cells #[.int .i64 7, .int .i64 0, .string ByteArray.empty, .slice a j c, .slice none 0 0, .slice none 0 0] 25 (0, 0)) :: row 25 6 a j c (ivss j).flatten :: [arch (heapOf W)]))) (fun iv _ => 1 + q - (intOf iv).toNat)
  case atStart => exact ⟨0, none, 0, rfl, by omega, S2⟩
  case round =>
    obtain ⟨j, a, c, rfl, hj, S⟩ := hrel
    clear S2
    by_cases hlt : j < 1 + q
    · have c3 : wr.cell? ⟨W.heap.size, 3, none⟩ = some (.slice a j c) := S.out.cell 3
      have S3 := hid S.out.swap
      go_wp2_with (at_builtin; refine wpList_pushN rfl _ _ rfl elemT rfl S3.out [.int .i64 1, .int .i64 j, .string ByteArray.empty, .slice none 0 0, .slice none 0 0, .slice none 0 0] rfl rfl rfl (one6 _ _ _ _ _) (by unfold maxLen; omega) (by omega) ?_; intro a' c' w3 s4 ha' hz; have S4 := hid s4.swap; clear s4 S3; have d3 : w3.cell? ⟨W.heap.size, 3, none⟩ = some (.slice a j c) := S4.out.cell 3; have f3 := S4.out.free 3)
      have s5 := S4.out.set 3 (.slice a' (j + 1) c')
      rw [← ivss_succ] at s5
      exact ⟨⟨j + 1, a', c', by go_num, by omega, hid s5⟩, by simp [intOf]; omega⟩
    · obtain rfl : j = 1 + q := by omega
      obtain ⟨b, HB⟩ : ∃ b : Nat, Hid (65536 - (1 + (q : Int)) - 5 + r = (b : Int)) := ⟨(65536 - (1 + (q : Int)) - 5 + r).toNat, hid (by omega)⟩
      have hb : b ≤ 65540 := by have := HB.out; omega
      have c3 : wr.cell? ⟨W.heap.size, 3, none⟩ = some (.slice a (1 + q) c) := S.out.cell 3
      obtain ⟨w4, hmk, s4, hz4⟩ := run_make_sat (t := 23) Tryd.underlying23 zero8 rfl S.out.drew .i64 .i64 b (by omega) (by unfold maxLen; omega)
      rw [← HB.out] at hmk
      have S4 : Hid (Sat W w4 (row 25 6 a (1 + q) c (ivss (1 + q)).flatten :: row 5 1 (some ⟨wr.drew.heap.size, 0, none⟩) b b (List.replicate b (.int .u8 0)) :: blk W.heap.size (.cells #[.int .i64 7, .int .i64 0, .string ByteArray.empty, .slice a (1 + q) c, .slice none 0 0, .slice none 0 0] 25 (0, 0)) :: [arch (heapOf W)])) := hid (s4.sel [2, 0, 1, 3])
      have d3 : w4.cell? ⟨W.heap.size, 3, none⟩ = some (.slice a (1 + q) c) := s4.swap.cell 3
      have hlt4 := s4.swap.lt
      clear s4
      go_wp2_with fail
      go_region_law (
           refine step_pushN rfl _ _ rfl elemT rfl S4.out [.int .i64 8, .int .i64 0, .string ByteArray.empty, .slice none 0 0, .slice none 0 0, .slice (some ⟨wr.drew.heap.size, 0, none⟩) b b] rfl rfl rfl (one6 _ _ _ _ _) (by unfold maxLen; omega) (by omega) ?_
           intro a' c' w5 s5 ha' hz5
           have hrl := s5.rowLen
           have S5 : Hid (Sat W w5 (blk W.heap.size (.cells #[.int .i64 7, .int .i64 0, .string ByteArray.empty, .slice a (1 + q) c, .slice none 0 0, .slice none 0 0] 25 (0, 0)) :: row 25 6 a' (1 + q + 1) c' ((ivss (1 + q)).flatten ++ [.int .i64 8, .int .i64 0, .string ByteArray.empty, .slice none 0 0, .slice none 0 0, .slice (some ⟨wr.drew.heap.size, 0, none⟩) b b]) :: row 5 1 (some ⟨wr.drew.heap.size, 0, none⟩) b b (List.replicate b (.int .u8 0)) :: [arch (heapOf W)])) := hid (s5.sel [2, 0, 1, 3])
           have e3 : w5.cell? ⟨W.heap.size, 3, none⟩ = some (.slice a (1 + q) c) := S5.out.cell 3
           have f3 := S5.out.free 3
           clear s5)
      all_goals have s6 := S5.out.set 3 (.slice a' (1 + q + 1) c')
      all_goals obtain ⟨h1, l1, r1, s8⟩ := store_row (s6.sel [2, 3, 1, 0])
      all_goals obtain ⟨h2, l2, r2, s9⟩ := store_row (s8.sel [1, 0, 2])
      all_goals have qT := parts_in (1 + q) b (r1.mono l2) r2 ⟨hrl.2.1, hrl.2.2⟩ (by unfold maxLen; omega)
      all_goals have HRT := hid (right_t s9 (partsT (1 + q) b) _ qT (parts_ok _ _ (by omega) (by omega)))
      all_goals have HL := hid (l1.trans l2)
      all_goals have k0 := s9.swap.cell 0
      all_goals have k1 := s9.swap.cell 1
      all_goals have k2 := s9.swap.cell 2
      all_goals have k3 := s9.swap.cell 3
      all_goals have k4 := s9.swap.cell 4
      all_goals have k5 := s9.swap.cell 5
      all_goals clear s6 s8 s9 l1 l2 r1 r2 qT hrl S4 S5
      all_goals go_wp2_with fail
      all_goals refine HRT.out.mono ?_
      all_goals rintro e w7 ⟨v, h3, rfl, l3, e3, s7⟩
      all_goals rw [parts_right _ _ (by omega)] at e3
      all_goals have HL3 := hid (HL.out.trans l3)
      all_goals have S7 := hid s7
      all_goals clear k0 k1 k2 k3 k4 k5 HRT l3 s7
      all_goals
        by_cases h5 : 2 + (1 + q) + b ≤ 65536
        · rw [if_pos h5] at e3
          have e3 : v = .nilIface := e3
          subst e3
          have hi : (2 : Int) + (1 + (q : Int)) + (65536 - (1 + (q : Int)) - 5 + (r : Int)) ≤ 65536 := by have := HB.out; omega
          go_wp2_with fail
          refine (awake_any S7.out).mono ?_
          rintro e w8 ⟨h4, rfl, l4, s8⟩
          have HL4 := hid (HL3.out.trans l4)
          have S8 := hid s8
          clear l4 s8 S7
          go_wp2_with fail
          go_ret
          exact ⟨rfl, S8.out.archBelow HL4.out⟩
        · rw [if_neg h5] at e3
          have e3 : ErrIn h3 v [(tTerm, 1 + q + 1)] 2 := e3
          obtain ⟨h4, l4, x4, s8⟩ := fault_in (op := tTerm) (n := (1 : Int) + q + 1) (k := 2) ((S7.out.alloc (.cells #[.string tTerm, .int .i64 ((1 : Int) + q + 1), .iface 44 (.int .i64 2)] 46)))
          have HE := hid (err_err s8 (e3.mono l4) x4 (by decide) (by simp))
          have HL4 := hid (HL3.out.trans l4)
          unfold tTerm at HE
          obtain ⟨ty, x, rfl⟩ := e3.iface
          have hi : ¬ (2 : Int) + (1 + (q : Int)) + (65536 - (1 + (q : Int)) - 5 + (r : Int)) ≤ 65536 := by have := HB.out; omega
          clear l4 s8 S7 x4 e3
          go_wp2_with fail
          refine HE.out.mono ?_
          rintro e w8 ⟨rfl, s9⟩
          have S9 := hid s9
          clear s9 HE
          go_wp2_with fail
          refine (awake_any S9.out).mono ?_
          rintro e w9 ⟨h5, rfl, l5, s10⟩
          have HL5 := hid (HL4.out.trans l5)
          have S10 := hid s10
          clear l5 s10 S9
          go_wp2_with fail
          go_ret
          exact ⟨rfl, S10.out.archBelow HL5.out⟩
#print axioms parts_walk
end Go.Proofs.YteaabbghnfideaaDoor
