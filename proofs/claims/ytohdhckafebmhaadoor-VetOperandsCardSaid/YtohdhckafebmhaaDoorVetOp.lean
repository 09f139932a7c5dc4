/-
  VetOperands: the law's walk.
-/
import Derived.Test.YtohdhckafebmhaaDoorVetX
namespace Go.Proofs.YtohdhckafebmhaaDoor
open Go.RowKit
set_option maxHeartbeats 4000000
set_option maxRecDepth 100000

def tNil6 : T := .mk 6 0 ByteArray.empty [] [] []
def nilV : List Value := [.int .i64 6, .int .i64 0, .string ByteArray.empty, .slice none 0 0, .slice none 0 0, .slice none 0 0]
def opsC (a b : Int) : List In := [⟨1, a, b, 0⟩, ⟨15, 0, 0, 0⟩]
def opsF (a b : Int) (s : Nat) : Fn := ⟨tF, 0, (s : Int), opsC a b⟩
def opsM (a b : Int) (s n : Nat) : Md := ⟨ByteArray.empty, List.replicate n tNil6, [opsF a b s]⟩
def plcB (a : Int) (s : Nat) : Bool := decide ((0 ≤ a ∧ a < 16) ∨ (16 ≤ a ∧ a < 16 + (s : Int)))
def srcB (b : Int) (s n : Nat) : Bool := decide ((0 ≤ b ∧ b < 16) ∨ (16 ≤ b ∧ b < 16 + (s : Int)) ∨ (64 ≤ b ∧ b < 64 + (n : Int)))
theorem nil_right : rightOf tNil6 = none := by decide +kernel
theorem litL_nils (n : Nat) : ∀ i, litL i (List.replicate n tNil6) = none := by
  induction n with
  | zero => intro i; rfl
  | succ n ih => intro i; rw [List.replicate_succ, litL, nil_right]; exact ih (i + 1)
theorem opd_p (m : Md) (f : Fn) (a : Int) (s : Nat) (hs : f.slots = s) : opdE m f 112 a = if plcB a s = true then 0 else 12 := by
  show (if (regB a || slotB f a) = true then (0 : Int) else 12) = _
  congr 1
  unfold plcB regB slotB inB
  rw [hs]
  simp only [Bool.or_eq_true, decide_eq_true_eq, eq_iff_iff]
  omega
theorem opd_s (m : Md) (f : Fn) (b : Int) (s n : Nat) (hs : f.slots = s) (hn : m.lits.length = n) : opdE m f 115 b = if srcB b s n = true then 0 else 12 := by
  show (if (litB m b || (regB b || slotB f b)) = true then (0 : Int) else 12) = _
  congr 1
  unfold srcB regB slotB litB inB
  rw [hs, hn]
  simp only [Bool.or_eq_true, decide_eq_true_eq, eq_iff_iff]
  omega
theorem ops_vet (a b : Int) (s n : Nat) (hs : s ≤ 32) (hn : n ≤ 19) : vetE (opsM a b s n) = if (plcB a s && srcB b s n) = true then none else err3 0 12 := by
  have hi : insE (opsM a b s n) (opsF a b s) ⟨1, a, b, 0⟩ = if (plcB a s && srcB b s n) = true then 0 else 12 := by
    have h0 : opdE (opsM a b s n) (opsF a b s) (letAt 1 0) a = if plcB a s = true then 0 else 12 := opd_p _ _ a s rfl
    have h1 : opdE (opsM a b s n) (opsF a b s) (letAt 1 1) b = if srcB b s n = true then 0 else 12 := opd_s _ _ b s n rfl (by simp [opsM])
    have h2 : opdE (opsM a b s n) (opsF a b s) (letAt 1 2) 0 = 0 := rfl
    unfold insE
    rw [if_neg (by simp)]
    simp only
    rw [h0, h1, h2]
    cases plcB a s <;> cases srcB b s n <;> rfl
  have ht : triesE (opsC a b) = .inl [0, 0] := by rfl
  have hf : funE (opsM a b s n) 0 (opsF a b s) = if (plcB a s && srcB b s n) = true then none else some ([(tAt, 0)], 12) := by
    have hs33 : inB ((s : Nat) : Int) 33 = true := decide_eq_true (by omega)
    unfold funE
    rw [if_neg (by simp), if_neg]
    · show (match insL (opsM a b s n) (opsF a b s) 0 [⟨1, a, b, 0⟩, ⟨15, 0, 0, 0⟩] with | some e => some e | none => match triesE (opsC a b) with | .inr (pc, e) => some ([(tAt, (pc : Int))], e) | .inl _ => none) = _
      rw [insL, hi, ht]
      cases plcB a s <;> cases srcB b s n <;> rfl
    · show ¬ (tF.size < 1 ∨ 255 < tF.size ∨ ¬ inB 0 9 = true ∨ ¬ inB ((s : Nat) : Int) 33 = true ∨ ¬ inB ((2 : Int) - 1) 16384 = true)
      rw [hs33]
      decide
  unfold vetE modE
  rw [if_neg (by show ¬ (255 < ByteArray.empty.size ∨ ¬ inB ((1 : Int) - 1) 256 = true ∨ 65536 < (List.replicate n tNil6).length); rw [List.length_replicate]; rintro (q | q | q); revert q; decide; revert q; decide; omega)]
  show (match (match litL 0 (List.replicate n tNil6) with | some e => some e | none => funL (opsM a b s n) 0 [opsF a b s]) with | some (l, k) => some ((tMod, 0) :: l, k) | none => none) = _
  rw [litL_nils]
  simp only
  rw [funL, hf]
  cases plcB a s <;> cases srcB b s n <;> rfl
section
variable {W w : World} {L : List HP} {h : Nat → Option Obj}
theorem one_own (S : Sat W w L) {ca : Option Addr} {n cc : Nat} :
    Calls Tryd.prog 17 #[.slice ca n cc] w fun e w' => ∃ b, e = .returned (.agg #[.string ⟨#[]⟩, .slice none 0 0, .slice (some ⟨b, 0, none⟩) 1 1]) ∧ Sat W w' (blk b (.cells #[.string ⟨#[102]⟩, .int .i64 0, .int .i64 0, .slice ca n cc] 40 (0, 0)) :: L) := by
  have S1 := hid S
  clear S
  go_enter Tryd.func17, Tryd.ntmps17
  go_wp2_with fail
  have s3 := ((S1.out.alloc' (.cells #[.string ⟨#[]⟩, .slice none 0 0, .slice (some ⟨w.heap.size + 1, 0, none⟩) 1 1] 25)).allocAt (k := w.heap.size + 1) (.cells #[.string ⟨#[102]⟩, .int .i64 0, .int .i64 0, .slice ca n cc] 40) (by simp))
  exact bodyPost_ret (v := .agg #[.string ⟨#[]⟩, .slice none 0 0, .slice (some ⟨w.heap.size + 1, 0, none⟩) 1 1]) (by simp [results, Tryd.results17, go_sem]) rfl ⟨_, rfl, s3⟩
end
theorem nilvs (h : Nat → Option Obj) : ∀ n : Nat, TsIn h (List.replicate n tNil6) (List.replicate n nilV)
  | 0 => by simp [TsIn]
  | n + 1 => by
    have q : TIn h tNil6 (tVals tNil6 none 0 none 0 none 0) := TIn.of (LIn.nil _ _) (LIn.nil _ _) (RdIn.nil _ _) (by simp [tNil6, T.is, T.rs, T.bs, maxLen])
    have := TsIn.snoc (nilvs h n) q
    rw [List.replicate_succ', List.replicate_succ']
    exact this
theorem nilv_snoc (n : Nat) : (List.replicate n nilV).flatten ++ nilV = (List.replicate (n + 1) nilV).flatten := by rw [List.replicate_succ', List.flatten_append]; simp
theorem ops_fit {a b : Int} {s n : Nat} (ha : fits a) (hb : fits b) (hs : s ≤ 32) : ∀ g ∈ (opsM a b s n).fs, FnOk g := by
  intro g hg
  obtain rfl : g = opsF a b s := by simpa [opsM] using hg
  refine ⟨(by decide : fits 0), (show fits ((s : Nat) : Int) by unfold fits; omega), fun x hx => ?_, (by show 2 ≤ _; omega), (by decide : tF.size ≤ 140737488351232)⟩
  simp only [opsF, opsC, List.mem_cons, List.not_mem_nil, or_false] at hx
  rcases hx with rfl | rfl
  · exact ⟨(by decide : fits 1), ha, hb, (by decide : fits 0)⟩
  · exact ⟨by decide, by decide, by decide, by decide⟩
theorem ops_nobif {a b : Int} {s n : Nat} : BifM (opsM a b s n) := by
  intro g hg x hx e
  exfalso
  obtain rfl : g = opsF a b s := by simpa [opsM] using hg
  simp only [opsF, opsC, List.mem_cons, List.not_mem_nil, or_false] at hx
  rcases hx with rfl | rfl
  · exact absurd e (by show (1 : Int) ≠ 12; decide)
  · exact absurd e (by decide)
theorem nil_lok (n : Nat) : LOk (List.replicate n tNil6) := LOk.of fun t ht => by
  rw [List.eq_of_mem_replicate ht]
  simp [tNil6, TOk, LOk, fits]
theorem ops_in {h : Nat → Option Obj} {a b : Int} {s n : Nat} {cb fb : Nat} (r1 : RdIn h (some ⟨cb, 0, none⟩) ((opsC a b).flatMap InVals)) (r2 : RdIn h (some ⟨fb, 0, none⟩) [.string ⟨#[102]⟩, .int .i64 0, .int .i64 s, .slice (some ⟨cb, 0, none⟩) 2 2]) : FsIn h (opsM a b s n).fs (some ⟨fb, 0, none⟩) := by
  intro i g hg
  cases i with
  | succ i => simp [opsM] at hg
  | zero =>
    obtain rfl : opsF a b s = g := by simpa [opsM] using hg
    refine ⟨fb, 0, fnVals (opsF a b s) (some ⟨cb, 0, none⟩) 2, rfl, fun j u hu => ?_, _, 2, rfl, r1, Nat.le_refl 2, by decide⟩
    obtain ⟨g, off, e, hc⟩ := r2 j u hu
    cases e
    simpa using hc
theorem ops_walk {W : World} (a b x y : Int) (hfa : fits a) (hfb : fits b) : Calls Tryd.prog 6 #[.int .i64 a, .int .i64 b, .int .i64 x, .int .i64 y] W fun e w' => e = .returned (.bool true) ∧ Below W.heap.size W w' := by
  obtain ⟨s, HS⟩ : ∃ s : Nat, Hid (x % 33 = (s : Int)) := ⟨(x % 33).toNat, hid (by omega)⟩
  have hs : s ≤ 32 := by have := HS.out; omega
  obtain ⟨n, HN⟩ : ∃ n : Nat, Hid (y % 20 = (n : Int)) := ⟨(y % 20).toNat, hid (by omega)⟩
  have hn : n ≤ 19 := by have := HN.out; omega
  have h1 := place_any x 33 W (by omega) (by omega)
  have h2 := place_any y 20 W (by omega) (by omega)
  rw [HS.out] at h1
  rw [HN.out] at h2
  have HV := hid (ops_vet a b s n hs hn)
  have HFA := hid hfa
  have HFB := hid hfb
  obtain ⟨g1, l1, r1, s1⟩ := store_lit ((Sat.startArch W).allocAt (k := W.heap.size) (.cells #[.int .i64 1, .int .i64 a, .int .i64 b, .int .i64 0, .int .i64 15, .int .i64 0, .int .i64 0, .int .i64 0] 36) rfl)
  have HO := hid (one_own s1 (ca := some ⟨W.heap.size, 0, none⟩) (n := 2) (cc := 2))
  have L1 := hid l1
  have R1 : Hid (RdIn g1 (some ⟨W.heap.size, 0, none⟩) ((opsC a b).flatMap InVals)) := hid r1
  clear l1 r1 s1 hfa hfb
  go_enter Tryd.func6, Tryd.ntmps6
  go_wp2_with fail
  refine h1.mono ?_
  rintro e w1 ⟨rfl, rfl⟩
  go_wp2_with fail
  refine h2.mono ?_
  rintro e w1 ⟨rfl, rfl⟩
  clear h1 h2
  go_wp2_with fail
  refine HO.out.mono ?_
  rintro e w2 ⟨fb, rfl, s2⟩
  have f0 := s2.free 2
  have flt := s2.lt
  have e0 := s2.cell 2
  obtain ⟨mb, HMB⟩ : ∃ mb, Hid (w2.heap.size = mb) := ⟨_, hid rfl⟩
  have s3 := ((s2.set 2 (.int .i64 s)).allocAt (k := mb) (.cells #[.string ⟨#[]⟩, .slice none 0 0, .slice (some ⟨fb, 0, none⟩) 1 1] 25) (by rw [← HMB.out]; simp))
  have S3 : Hid (Sat W _ (blk mb (.cells #[.string ⟨#[]⟩, .slice none 0 0, .slice (some ⟨fb, 0, none⟩) 1 1] 25 (0, 0)) :: row 46 6 none 0 0 (List.replicate 0 nilV).flatten :: blk fb (.cells #[.string ⟨#[102]⟩, .int .i64 0, .int .i64 s, .slice (some ⟨W.heap.size, 0, none⟩) 2 2] 40 (0, 0)) :: [arch g1])) := hid ((s3.rowNil (e := 46) (size := 6)).swap)
  clear s2 s3 HO
  go_wp2_with fail
  rw [HMB.out]
  clear f0 flt e0
  go_loopw [12] (fun iv wr => ∃ (j : Nat) (a0 : Option Addr) (c : Nat), iv = .int .i64 j ∧ j ≤ n ∧ Hid (Sat W wr (blk mb (.cells #[.string ⟨#[]⟩, .slice a0 j c, .slice (some ⟨fb, 0, none⟩) 1 1] 25 (0, 0)) :: row 46 6 a0 j c (List.replicate j nilV).flatten :: blk fb (.cells #[.string ⟨#[102]⟩, .int .i64 0, .int .i64 s, .slice (some ⟨W.heap.size, 0, none⟩) 2 2] 40 (0, 0)) :: [arch g1]))) (fun iv _ => n - (intOf iv).toNat)
  case atStart => exact ⟨0, none, 0, rfl, Nat.zero_le _, S3⟩
  case round =>
    obtain ⟨j, a0, c, rfl, hj, S⟩ := hrel
    clear S3
    by_cases hlt : j < n
    · have c1 : wr.cell? ⟨mb, 1, none⟩ = some (.slice a0 j c) := S.out.cell 1
      have hji : ((j : Nat) : Int) < (n : Int) := by omega
      have S4 := hid S.out.swap
      go_wp2_with (at_builtin; refine wpList_pushN rfl _ _ rfl elemT rfl S4.out nilV rfl rfl rfl (by intro v hv; simp only [nilV, List.mem_cons, List.not_mem_nil, or_false] at hv; rcases hv with rfl | rfl | rfl | rfl | rfl | rfl <;> rfl) (by unfold maxLen; omega) (by omega) ?_; intro a' c' w3 s4 ha' hz; have S5 := hid s4.swap; clear s4 S4; have d1 : w3.cell? ⟨mb, 1, none⟩ = some (.slice a0 j c) := S5.out.cell 1; have f1 := S5.out.free 1)
      have s6 := S5.out.set 1 (.slice a' (j + 1) c')
      rw [nilv_snoc] at s6
      have S6 := hid s6
      clear s6 S5 S
      go_roundw
      case rel => exact ⟨j + 1, a', c', by go_num, by omega, S6⟩
      case measure => simp [intOf]; omega
    · obtain rfl : j = n := by omega
      have hnl : ¬ ((j : Nat) : Int) < (j : Int) := by omega
      obtain ⟨pl, HPL⟩ : ∃ pl, Hid (plcB a s = pl) := ⟨_, hid rfl⟩
      obtain ⟨sr, HSR⟩ : ∃ sr, Hid (srcB b s j = sr) := ⟨_, hid rfl⟩
      rw [HPL.out, HSR.out] at HV
      go_upto_region 9 with fail
      go_cut [13] from 42 to 57 (fun v wd => v = .bool pl ∧ Hid (Sat W wd (blk mb (.cells #[.string ⟨#[]⟩, .slice a0 j c, .slice (some ⟨fb, 0, none⟩) 1 1] 25 (0, 0)) :: row 46 6 a0 j c (List.replicate j nilV).flatten :: blk fb (.cells #[.string ⟨#[102]⟩, .int .i64 0, .int .i64 s, .slice (some ⟨W.heap.size, 0, none⟩) 2 2] 40 (0, 0)) :: [arch g1])))
      case first =>
        rcases (show (¬ 0 ≤ a) ∨ (0 ≤ a ∧ a < 16) ∨ (16 ≤ a ∧ a < 16 + (s : Int)) ∨ (16 + (s : Int) ≤ a) by omega) with hh | hh | hh | hh
        · obtain rfl : pl = false := by rw [← HPL.out]; exact decide_eq_false (by omega)
          have hf0 : a < 0 := by omega
          clear hh
          go_wp2_with fail
          all_goals go_meet
          all_goals exact ⟨rfl, S⟩
        · obtain rfl : pl = true := by rw [← HPL.out]; exact decide_eq_true (by omega)
          have hf0 : 0 ≤ a := by omega
          have hf1 : a < 16 := by omega
          clear hh
          go_wp2_with fail
          all_goals go_meet
          all_goals exact ⟨rfl, S⟩
        · obtain rfl : pl = true := by rw [← HPL.out]; exact decide_eq_true (by omega)
          have hf0 : 16 ≤ a := by omega
          have hf1 : a < 16 + (s : Int) := by omega
          have hf2 : ¬ a < 16 := by omega
          have hf3 : 0 ≤ a := by omega
          clear hh
          go_wp2_with fail
          all_goals go_meet
          all_goals exact ⟨rfl, S⟩
        · obtain rfl : pl = false := by rw [← HPL.out]; exact decide_eq_false (by omega)
          have hf0 : decide (a < 16 + (s : Int)) = false := decide_eq_false (by omega)
          have hf1 : ¬ a < 16 := by omega
          have hf2 : 0 ≤ a := by omega
          have hf3 : 16 ≤ a := by omega
          clear hh
          go_wp2_with fail
          all_goals go_meet
          all_goals exact ⟨rfl, S⟩
      case rest =>
        obtain ⟨rfl, S5⟩ := hcut
        clear S
        have S := S5
        clear S5
        go_upto_region 10 with fail
        go_cut [14] from 58 to 83 (fun v wd => v = .bool sr ∧ Hid (Sat W wd (blk mb (.cells #[.string ⟨#[]⟩, .slice a0 j c, .slice (some ⟨fb, 0, none⟩) 1 1] 25 (0, 0)) :: row 46 6 a0 j c (List.replicate j nilV).flatten :: blk fb (.cells #[.string ⟨#[102]⟩, .int .i64 0, .int .i64 s, .slice (some ⟨W.heap.size, 0, none⟩) 2 2] 40 (0, 0)) :: [arch g1])))
        case first =>
          rcases (show (b < 0) ∨ (0 ≤ b ∧ b < 16) ∨ (16 ≤ b ∧ b < 16 + (s : Int)) ∨ (16 + (s : Int) ≤ b ∧ b < 64) ∨ (64 ≤ b ∧ b < 64 + (j : Int)) ∨ (64 + (j : Int) ≤ b) by omega) with hh | hh | hh | hh | hh | hh
          · obtain rfl : sr = false := by rw [← HSR.out]; exact decide_eq_false (by omega)
            have hf0 : b < 0 := by omega
            have hf1 : ¬ 0 ≤ b := by omega
            have hf2 : ¬ 16 ≤ b := by omega
            have hf3 : ¬ 64 ≤ b := by omega
            clear hh
            go_wp2_with fail
            all_goals go_meet
            all_goals exact ⟨rfl, S⟩
          · obtain rfl : sr = true := by rw [← HSR.out]; exact decide_eq_true (by omega)
            have hf0 : 0 ≤ b := by omega
            have hf1 : b < 16 := by omega
            clear hh
            go_wp2_with fail
            all_goals go_meet
            all_goals exact ⟨rfl, S⟩
          · obtain rfl : sr = true := by rw [← HSR.out]; exact decide_eq_true (by omega)
            have hf0 : 16 ≤ b := by omega
            have hf1 : b < 16 + (s : Int) := by omega
            have hf2 : ¬ b < 16 := by omega
            have hf3 : 0 ≤ b := by omega
            clear hh
            go_wp2_with fail
            all_goals go_meet
            all_goals exact ⟨rfl, S⟩
          · obtain rfl : sr = false := by rw [← HSR.out]; exact decide_eq_false (by omega)
            have hf0 : decide (b < 16 + (s : Int)) = false := decide_eq_false (by omega)
            have hf1 : b < 64 := by omega
            have hf2 : ¬ b < 16 := by omega
            have hf3 : 0 ≤ b := by omega
            have hf4 : 16 ≤ b := by omega
            clear hh
            go_wp2_with fail
            all_goals go_meet
            all_goals exact ⟨rfl, S⟩
          · obtain rfl : sr = true := by rw [← HSR.out]; exact decide_eq_true (by omega)
            have hf0 : 64 ≤ b := by omega
            have hf1 : b < 64 + (j : Int) := by omega
            have hf2 : decide (b < 16 + (s : Int)) = false := decide_eq_false (by omega)
            have hf3 : ¬ b < 16 := by omega
            have hf4 : 0 ≤ b := by omega
            have hf5 : 16 ≤ b := by omega
            clear hh
            go_wp2_with fail
            all_goals go_meet
            all_goals exact ⟨rfl, S⟩
          · obtain rfl : sr = false := by rw [← HSR.out]; exact decide_eq_false (by omega)
            have hf0 : decide (b < 64 + (j : Int)) = false := decide_eq_false (by omega)
            have hf1 : 64 ≤ b := by omega
            have hf2 : decide (b < 16 + (s : Int)) = false := decide_eq_false (by omega)
            have hf3 : ¬ b < 16 := by omega
            have hf4 : 0 ≤ b := by omega
            have hf5 : 16 ≤ b := by omega
            clear hh
            go_wp2_with fail
            all_goals go_meet
            all_goals exact ⟨rfl, S⟩
        case rest =>
          obtain ⟨rfl, S5⟩ := hcut
          clear S
          have c0 := S5.out.cell 0
          have c1 := S5.out.cell 1
          have c2 := S5.out.cell 2
          have hrl := S5.out.swap.rowLen
          obtain ⟨g2, l2, r2, s6⟩ := store_row ((S5.out.drop).sel [0, 2, 1])
          obtain ⟨g3, l3, r3, s7⟩ := store_lit (s6.sel [1, 0])
          have L3 := hid ((L1.out.trans l2).trans l3)
          have HM := hid (vet_any (fc := 1) (lc := c) (la := a0) s7 (opsM a b s j) (by show 1 ≤ _; omega) (by show (List.replicate j tNil6).length ≤ _; rw [List.length_replicate]; omega) ⟨Nat.le_refl 1, by decide⟩ ((LIn.of_rd (nilvs g2 j) r2).mono l3) (nil_lok j) (ops_in ((R1.out.mono l2).mono l3) r3) (ops_fit HFA.out HFB.out hs) ops_nobif)
          have hlen : (opsM a b s j).lits.length = j := by simp [opsM]
          rw [HV.out, hlen] at HM
          have HM2 : Hid (Calls Tryd.prog 12 #[.agg #[.string ⟨#[]⟩, .slice a0 j c, .slice (some ⟨fb, 0, none⟩) 1 1]] _ (ModP W [] g3 (if (pl && sr) = true then none else err3 0 12))) := HM
          clear HM hlen l2 l3 r2 r3 s6 s7 hrl
          by_cases hboth : (pl && sr) = true
          · rw [if_pos hboth] at HM2
            obtain ⟨rfl, rfl⟩ : pl = true ∧ sr = true := by simpa using hboth
            go_wp2_with fail
            refine HM2.out.mono ?_
            rintro e w6 ⟨vv, h3, rfl, l3, q3, s3⟩
            obtain rfl : vv = .nilIface := q3
            have L5 := hid (L3.out.trans l3)
            have S6 := hid s3
            clear HM2 L3 l3 s3 S5 c0 c1 c2
            go_wp2_with fail
            refine (awake10 S6.out).mono ?_
            rintro e w9 ⟨h9, rfl, l9, s9⟩
            have L9 := hid (L5.out.trans l9)
            have S9 := hid s9
            clear l9 s9 S6
            go_wp2_with fail
            go_ret
            exact ⟨rfl, S9.out.archBelow L9.out⟩
          · rw [if_neg hboth] at HM2
            cases pl with
            | false =>
              go_wp2_with fail
              refine HM2.out.mono ?_
              rintro e w6 ⟨vv, h3, rfl, l3, q3, s3⟩
              obtain ⟨q4, _⟩ : ErrIn h3 vv [(tMod, 0), (tFun, 0), (tAt, 0)] 12 ∧ (12 : Int) ≠ 0 := q3
              have Q4 := hid q4
              obtain ⟨ty, xx, rfl⟩ := q4.iface
              have L5 := hid (L3.out.trans l3)
              have S6 := hid s3
              clear HM2 L3 l3 s3 S5 c0 c1 c2 q4
              go_wp2_with fail
              refine (wrong_any S6.out 0 12).mono ?_
              rintro e w7 ⟨v7, h7, rfl, l7, q7, s7⟩
              obtain ⟨ty7, x7, rfl⟩ := q7.iface
              have HE := hid (err_err s7 (Q4.out.mono l7) q7 (by decide) (by simp))
              have L7 := hid (L5.out.trans l7)
              clear l7 q7 s7 S6
              go_wp2_with fail
              refine HE.out.mono ?_
              rintro e w8 ⟨rfl, s8⟩
              have S8 := hid s8
              clear s8 HE
              go_wp2_with fail
              refine (awake10 S8.out).mono ?_
              rintro e w9 ⟨h9, rfl, l9, s9⟩
              have L9 := hid (L7.out.trans l9)
              have S9 := hid s9
              clear l9 s9 S8
              go_wp2_with fail
              go_ret
              exact ⟨rfl, S9.out.archBelow L9.out⟩
            | true =>
            cases sr with
            | true => exact absurd rfl hboth
            | false =>
              go_wp2_with fail
              refine HM2.out.mono ?_
              rintro e w6 ⟨vv, h3, rfl, l3, q3, s3⟩
              obtain ⟨q4, _⟩ : ErrIn h3 vv [(tMod, 0), (tFun, 0), (tAt, 0)] 12 ∧ (12 : Int) ≠ 0 := q3
              have Q4 := hid q4
              obtain ⟨ty, xx, rfl⟩ := q4.iface
              have L5 := hid (L3.out.trans l3)
              have S6 := hid s3
              clear HM2 L3 l3 s3 S5 c0 c1 c2 q4
              go_wp2_with fail
              refine (wrong_any S6.out 0 12).mono ?_
              rintro e w7 ⟨v7, h7, rfl, l7, q7, s7⟩
              obtain ⟨ty7, x7, rfl⟩ := q7.iface
              have HE := hid (err_err s7 (Q4.out.mono l7) q7 (by decide) (by simp))
              have L7 := hid (L5.out.trans l7)
              clear l7 q7 s7 S6
              go_wp2_with fail
              refine HE.out.mono ?_
              rintro e w8 ⟨rfl, s8⟩
              have S8 := hid s8
              clear s8 HE
              go_wp2_with fail
              refine (awake10 S8.out).mono ?_
              rintro e w9 ⟨h9, rfl, l9, s9⟩
              have L9 := hid (L7.out.trans l9)
              have S9 := hid s9
              clear l9 s9 S8
              go_wp2_with fail
              go_ret
              exact ⟨rfl, S9.out.archBelow L9.out⟩
#print axioms ops_walk
end Go.Proofs.YtohdhckafebmhaaDoor
