/-
  vet: tries. Under way.
-/
import Derived.Test.YtohdhckafebmhaaDoorVetT
import Derived.Test.YtohdhckafebmhaaDoorMake
namespace Go.Proofs.YtohdhckafebmhaaDoor
open Go.RowKit
set_option maxHeartbeats 4000000
set_option maxRecDepth 100000

def TriesP (c : List Int ⊕ (Nat × Int)) (pc k : Int) : Prop := match c with | .inr (p, kk) => pc = p ∧ k = kk | .inl _ => pc = 0 ∧ k = 0
theorem vBoolZero : (Tryd.prog.info? 4).map (fun i => (i.zero, i.size, i.bytes)) = some (some (.bool false), 1, 1) := rfl
theorem vIntZero : (Tryd.prog.info? 3).map (fun i => (i.zero, i.size, i.bytes)) = some (some (.int .i64 0), 1, 8) := rfl
def boolsV (l : List Bool) : List Value := l.map .bool
theorem set64 (l : List Int) (k : Nat) (n : Int) : (i64s' l).set k (.int .i64 n) = i64s' (l.set k n) := by simp [i64s', List.map_set]
theorem get64 {l : List Int} {k : Nat} {n : Int} (h : l[k]? = some n) : (i64s' l)[k]? = some (.int .i64 n) := by simp [i64s', h]
theorem setB (l : List Bool) (k : Nat) (b : Bool) : (boolsV l).set k (.bool b) = boolsV (l.set k b) := by simp [boolsV, List.map_set]
theorem getB {l : List Bool} {k : Nat} {b : Bool} (h : l[k]? = some b) : (boolsV l)[k]? = some (.bool b) := by simp [boolsV, h]
theorem fill_set {j n : Nat} (a b : Int) (h : j < n) : (List.replicate j a ++ List.replicate (n - j) b).set j a = List.replicate (j + 1) a ++ List.replicate (n - (j + 1)) b := by
  rw [List.set_append_right _ _ (by simp), List.length_replicate, Nat.sub_self, show n - j = (n - (j + 1)) + 1 by omega, List.replicate_succ, List.set_cons_zero, List.replicate_succ', List.append_assoc]
  rfl
theorem start_ok {n : Nat} : TrOk n (start n) := by
  refine ⟨by simp [start], by simp [start], Nat.zero_le _, Nat.zero_le _, ?_, ?_⟩
  · intro x hx
    rcases mem_set' hx with hx | rfl
    · rw [List.eq_of_mem_replicate hx]; omega
    · omega
  · intro i hi
    cases i with
    | zero =>
      unfold start
      cases n with
      | zero => simp
      | succ n => simp [List.replicate_succ]
    | succ i =>
      exfalso
      unfold start at hi
      simp only [List.getD_eq_getElem?_getD] at hi
      rw [List.getElem?_set_ne (by omega)] at hi
      rw [List.getElem?_replicate] at hi
      split at hi <;> simp at hi
theorem runT_end {code : List In} {k : Nat} {s : Tr} (h : ¬ s.pc < code.length) : runT code (k + 1) s = .inl s.l := by unfold runT; rw [if_neg h]
theorem runT_go {code : List In} {k : Nat} {s s' : Tr} (h : s.pc < code.length) (e : stepT code s = .inl s') : runT code (k + 1) s = runT code k s' := by rw [runT, if_pos h, e]
theorem runT_bad {code : List In} {k : Nat} {s : Tr} {q : Int} (h : s.pc < code.length) (e : stepT code s = .inr q) : runT code (k + 1) s = .inr (s.pc, q) := by rw [runT, if_pos h, e]
theorem step_shut {code : List In} {s : Tr} (h : s.o[s.pc]? = some false) : stepT code s = .inl { s with pc := s.pc + 1 } := by
  unfold stepT
  rw [if_pos (by rw [List.getD_eq_getElem?_getD, h]; rfl)]
theorem step_bad {code : List In} {s : Tr} {x : In} {t : Int} (h : s.o[s.pc]? = some true) (hx : code[s.pc]? = some x) (ht : s.l[s.pc]? = some t) (hb : (x.op = 25 ∧ t < 1) ∨ ((x.op = 15 ∨ x.op = 14) ∧ t ≠ 0)) : stepT code s = .inr 14 := by
  unfold stepT
  rw [if_neg (by rw [List.getD_eq_getElem?_getD, h]; decide), hx]
  simp only
  rw [List.getD_eq_getElem?_getD, ht]
  exact if_pos hb
theorem step_go {code : List In} {s : Tr} {x : In} {t : Int} (h : s.o[s.pc]? = some true) (hx : code[s.pc]? = some x) (ht : s.l[s.pc]? = some t) (hb : ¬ ((x.op = 25 ∧ t < 1) ∨ ((x.op = 15 ∨ x.op = 14) ∧ t ≠ 0))) :
    stepT code s = match ways code.length { s with o := s.o.set s.pc false, next := s.pc + 1 } (goesE x s.pc t) with | .inr e => .inr e | .inl s' => .inl { s' with pc := s'.next } := by
  unfold stepT
  rw [if_neg (by rw [List.getD_eq_getElem?_getD, h]; decide), hx]
  simp only
  rw [List.getD_eq_getElem?_getD, ht]
  exact if_neg hb
section
variable {W w : World} {L : List HP} {h : Nat → Option Obj} {ca : Option Addr} {n cc : Nat}
theorem tries_any (S : Sat W w (arch h :: L)) (m : Md) (f : Fn) (hl : f.code.length = n) (hn : 0 < n ∧ n ≤ 16384) (hin : RdIn h ca (f.code.flatMap InVals)) (hok : ∀ x ∈ f.code, InOk x) (hins : ∀ x ∈ f.code, ∀ j, j < 3 → ordE m f x j = 0) :
    Calls Tryd.prog 40 #[.slice ca n cc] w fun e w' => ∃ (v0 : Value) (pc k : Int), e = .returned (.tuple #[v0, .int .i64 pc, errV k]) ∧ Sat W w' (arch h :: L) ∧ TriesP (triesE f.code) pc k := by
  have S1 := hid S
  have HL := hid hl
  have HI := hid hin
  have HK := hid hok
  have HS := hid hins
  obtain ⟨hn1, hn2⟩ := hn
  clear S hl hin hok hins
  obtain ⟨lb, HLB⟩ : ∃ lb, Hid (w.heap.size = lb) := ⟨_, hid rfl⟩
  go_enter Tryd.func40, Tryd.ntmps40
  go_wp2_with (at_make; first
    | (refine wpList_make_sat rfl _ _ rfl Tryd.underlying52 vIntZero rfl S1.out .i64 .i64 n rfl rfl (by omega) (by unfold maxLen; omega) ?_; intro w4 s4 hz4; have S4 := hid s4; clear s4 hz4 S1)
    | (refine wpList_make_sat rfl _ _ rfl Tryd.underlying109 vBoolZero rfl S4.out .i64 .i64 n rfl rfl (by omega) (by unfold maxLen; omega) ?_; intro w5 s5 hz5; have S5 := hid s5; clear s5 hz5 S4))
  rw [HLB.out] at S5 ⊢
  obtain ⟨ob, HOB⟩ : ∃ ob, Hid (w4.heap.size = ob) := ⟨_, hid rfl⟩
  rw [HOB.out] at S5 ⊢
  go_loopw [23] (fun iv wr => ∃ j : Nat, j ≤ n ∧ iv = .int .i64 j ∧ Hid (Sat W wr (row 3 1 (some ⟨lb, 0, none⟩) n n (i64s' (List.replicate j (-1) ++ List.replicate (n - j) 0)) :: row 4 1 (some ⟨ob, 0, none⟩) n n (boolsV (List.replicate n false)) :: arch h :: L))) (fun iv _ => n - (intOf iv).toNat)
  case atStart => exact ⟨0, Nat.zero_le _, rfl, hid (by have := S5.out.swap; simpa [boolsV, i64s'] using this)⟩
  case round =>
    obtain ⟨j, hj, rfl, S6⟩ := hrel
    clear S5
    by_cases hlt : j < n
    · obtain ⟨_, _, hg, hc, hf⟩ := S6.out.rowCells (by omega)
      cases hg
      have e0 := hc j (by omega)
      obtain ⟨bv, hbv⟩ : ∃ bv, (i64s' (List.replicate j (-1) ++ List.replicate (n - j) 0))[j]? = some bv := ⟨_, List.getElem?_eq_getElem (by simp [i64s']; omega)⟩
      rw [hbv] at e0
      have f0 := hf (0 + j)
      have s6 := S6.out.rowSet j (by omega) (.int .i64 (-1))
      rw [set64, fill_set _ _ hlt] at s6
      have S7 := hid s6
      clear hc hf hbv s6 S6
      rw [Nat.zero_add] at e0 f0
      go_wp2_with fail
      go_roundw
      case rel => exact ⟨j + 1, by omega, by go_num, by have := S7; rw [Nat.zero_add] at this; exact this⟩
      case measure => simp [intOf]; omega
    · obtain rfl : j = n := by omega
      have hbj : i64s' (List.replicate j (-1) ++ List.replicate (j - j) 0) = i64s' (List.replicate j (-1)) := by simp
      rw [hbj] at S6
      clear hbj hlt hj
      obtain ⟨_, _, hg, hc, hf⟩ := S6.out.rowCells (by omega)
      cases hg
      have e0 := hc 0 (by omega)
      rw [get64 (List.getElem?_replicate_of_lt hn1)] at e0
      have f0 := hf (0 + 0)
      have s6 := S6.out.rowSet 0 (by omega) (.int .i64 0)
      rw [set64] at s6
      have s7 := s6.swap
      obtain ⟨_, _, hg, hc, hf⟩ := s7.rowCells (by omega)
      cases hg
      have e1 := hc 0 (by omega)
      rw [getB (List.getElem?_replicate_of_lt hn1)] at e1
      have f1 := hf (0 + 0)
      have s8 := s7.rowSet 0 (by omega) (.bool true)
      rw [setB] at s8
      have S7 := hid s8.swap
      clear s6 s7 s8 hc hf S6
      rw [Nat.zero_add] at e0 f0 e1 f1
      go_wp2_with fail
      rw [Nat.zero_add] at S7
      go_loopg [8] (meas j (start j) + 1) (fun left pv wr => ∃ (k0 : Nat) (s : Tr), k0 = left ∧ pv = .int .i64 (s.pc : Nat) ∧ Hid (TrOk j s) ∧ Hid (meas j s < left) ∧ Hid (triesE f.code = runT f.code left s) ∧ Hid (Sat W wr (row 3 1 (some ⟨lb, 0, none⟩) j j (i64s' s.l) :: row 4 1 (some ⟨ob, 0, none⟩) j j (boolsV s.o) :: arch h :: L)))
      case atStart => exact ⟨_, start j, rfl, rfl, hid start_ok, hid (Nat.lt_succ_self _), hid (by unfold triesE; rw [HL.out]), S7⟩
      case round =>
        obtain ⟨k0, s, rfl, rfl, HT, HM, HR, S⟩ := hrel
        clear S7 e0 f0 e1 f1
        obtain ⟨k, rfl⟩ : ∃ k, k0 = k + 1 := ⟨k0 - 1, by have := HM.out; omega⟩
        by_cases hpc : s.pc < j
        · have hd : decide ((s.pc : Int) < (j : Int)) = true := decide_eq_true (by omega)
          have hcl : s.pc < f.code.length := by rw [HL.out]; exact hpc
          obtain ⟨b, hb⟩ : ∃ b, s.o[s.pc]? = some b := ⟨_, List.getElem?_eq_getElem (by rw [HT.out.o]; exact hpc)⟩
          have hpb : ((s.pc : Nat) : Int) < (j : Int) := by omega
          obtain ⟨_, _, hg, hc, hf⟩ := S.out.swap.rowCells (by omega)
          cases hg
          have e0 := hc s.pc (by omega)
          rw [getB hb] at e0
          have f0 := hf (0 + s.pc)
          rw [Nat.zero_add] at e0 f0
          clear hc hf
          cases b with
          | false =>
            have hst := step_shut (code := f.code) hb
            have hrun := runT_go (k := k) hcl hst
            rw [← HR.out] at hrun
            have HRUN := hid hrun
            have HMM : Hid (meas j { s with pc := s.pc + 1 } < k) := hid (by have := HM.out; unfold meas at this ⊢; simp only; omega)
            clear hrun hst hb HR HM
            go_wp2_with fail
            go_roundg k
            all_goals first
              | omega
              | exact ⟨_, { s with pc := s.pc + 1 }, rfl, by go_num, hid ⟨HT.out.l, HT.out.o, by show s.pc + 1 ≤ j; omega, HT.out.next, HT.out.vals, HT.out.opn⟩, HMM, HRUN, S⟩
          | true =>
            obtain ⟨x, hx⟩ : ∃ x, f.code[s.pc]? = some x := ⟨_, List.getElem?_eq_getElem hcl⟩
            obtain ⟨t, ht⟩ : ∃ t, s.l[s.pc]? = some t := ⟨_, List.getElem?_eq_getElem (by rw [HT.out.l]; exact hpc)⟩
            have hxin := List.mem_of_getElem? hx
            have htb := HT.out.vals t (List.mem_of_getElem? ht)
            have s6 := S.out.swap.rowSet s.pc (by omega) (.bool false)
            rw [setB, Nat.zero_add] at s6
            have S6 := hid s6.swap
            obtain ⟨cg, coff, rfl, k0⟩ := HI.out (s.pc * 4 + 0) (.int .i64 x.op) (by rw [flat_get lenIn hx (by omega)]; rfl)
            obtain ⟨_, _, hg, k1⟩ := HI.out (s.pc * 4 + 1) (.int .i64 x.a) (by rw [flat_get lenIn hx (by omega)]; rfl)
            cases hg
            obtain ⟨_, _, hg, k2⟩ := HI.out (s.pc * 4 + 2) (.int .i64 x.b) (by rw [flat_get lenIn hx (by omega)]; rfl)
            cases hg
            obtain ⟨_, _, hg, k3⟩ := HI.out (s.pc * 4 + 3) (.int .i64 x.c) (by rw [flat_get lenIn hx (by omega)]; rfl)
            cases hg
            have c0 := S6.out.drop.drop.cellIn k0
            have c1 := S6.out.drop.drop.cellIn k1
            have c2 := S6.out.drop.drop.cellIn k2
            have c3 := S6.out.drop.drop.cellIn k3
            rw [← Nat.add_assoc] at c0 c1 c2 c3
            rw [Nat.add_zero] at c0
            have HX := hid hx
            have HTT := hid ht
            have HXO := hid (HK.out x hxin)
            have HXI := hid (HS.out x hxin)
            have HOO := hid hb
            clear k0 k1 k2 k3 hxin hx hb ht
            go_upto_region 16 with fail
            have S7 := hid (S6.out.allocAt (k := wr.heap.size) (.cells #[.int .i64 x.op, .int .i64 x.a, .int .i64 x.b, .int .i64 x.c] 36) (by simp))
            obtain ⟨xb, HXB⟩ : ∃ xb, Hid (wr.heap.size = xb) := ⟨_, hid rfl⟩
            obtain ⟨op, HOP⟩ : ∃ op, Hid (x.op = op) := ⟨_, hid rfl⟩
            rw [HXB.out, HOP.out] at S7
            rw [HXB.out, HOP.out]
            rw [HOP.out] at c0
            clear c0 c1 c2 c3 S6 e0 f0 s6 S
            have x0 : World.cell? _ ⟨xb, 0, none⟩ = some (.int .i64 op) := S7.out.cell 0
            obtain ⟨_, _, hg, hc, _⟩ := S7.out.swap.rowCells (by omega)
            cases hg
            have l0 := hc s.pc (by omega)
            rw [get64 HTT.out, Nat.zero_add] at l0
            clear hc
            obtain ⟨bad, HBAD⟩ : ∃ bad, Hid (decide ((op = 25 ∧ t < 1) ∨ ((op = 15 ∨ op = 14) ∧ t ≠ 0)) = bad) := ⟨_, hid rfl⟩
            go_cut [78] from 52 to 78 (fun v wd => v = .bool bad ∧ Hid (Sat W wd (blk xb (.cells #[.int .i64 op, .int .i64 x.a, .int .i64 x.b, .int .i64 x.c] 36 (0, 0)) :: row 3 1 (some ⟨lb, 0, none⟩) j j (i64s' s.l) :: row 4 1 (some ⟨ob, 0, none⟩) j j (boolsV (s.o.set s.pc false)) :: arch h :: L)))
            case first =>
              by_cases e25 : op = 25
              · subst e25
                by_cases ht1 : t < 1
                · obtain rfl : bad = true := by rw [← HBAD.out]; simp [ht1]
                  go_wp2_with fail
                  all_goals go_meet
                  all_goals exact ⟨rfl, S7⟩
                · obtain rfl : bad = false := by rw [← HBAD.out]; simp [ht1]
                  go_wp2_with fail
                  all_goals go_meet
                  all_goals exact ⟨rfl, S7⟩
              by_cases e15 : op = 15
              · subst e15
                by_cases ht0 : t = 0
                · subst ht0
                  obtain rfl : bad = false := by rw [← HBAD.out]; simp
                  go_wp2_with fail
                  all_goals go_meet
                  all_goals exact ⟨rfl, S7⟩
                · obtain rfl : bad = true := by rw [← HBAD.out]; simp [ht0]
                  go_wp2_with fail
                  all_goals go_meet
                  all_goals exact ⟨by simp [ht0], S7⟩
              by_cases e14 : op = 14
              · subst e14
                by_cases ht0 : t = 0
                · subst ht0
                  obtain rfl : bad = false := by rw [← HBAD.out]; simp
                  go_wp2_with fail
                  all_goals go_meet
                  all_goals exact ⟨rfl, S7⟩
                · obtain rfl : bad = true := by rw [← HBAD.out]; simp [ht0]
                  go_wp2_with fail
                  all_goals go_meet
                  all_goals exact ⟨by simp [ht0], S7⟩
              obtain rfl : bad = false := by rw [← HBAD.out]; simp [e25, e15, e14]
              go_wp2_with fail
              all_goals go_meet
              all_goals exact ⟨rfl, S7⟩
            case rest =>
              obtain ⟨rfl, S8⟩ := hcut
              clear S7 x0 l0
              cases bad with
              | true =>
                have hrun := runT_bad (k := k) hcl (step_bad HOO.out HX.out HTT.out (by have := of_decide_eq_true HBAD.out; rw [← HOP.out] at this; exact this))
                rw [← HR.out] at hrun
                have HRUN := hid hrun
                clear hrun
                go_wp2_with fail
                go_ret3
                exact ⟨_, s.pc, 14, rfl, S8.out.drop.drop.drop, by rw [HRUN.out]; exact ⟨rfl, rfl⟩⟩
              | false =>
                have hnb := of_decide_eq_false HBAD.out
                rw [← HOP.out] at hnb
                have htp : 0 ≤ t := by
                  have := HT.out.opn s.pc (by rw [List.getD_eq_getElem?_getD, HOO.out]; rfl)
                  rw [List.getD_eq_getElem?_getD, HTT.out] at this
                  exact this
                have hgp := goes_pos (pc := (s.pc : Int)) HXI.out (by omega) htp (fun e => by have : ¬ t < 1 := fun q => hnb (.inl ⟨e, q⟩); omega)
                have HCL := hid (close_ok HT.out hpc)
                have HSTEP := hid (step_go HOO.out HX.out HTT.out hnb)
                have hgl : (goesE x s.pc t).length ≤ 2 := by unfold goesE; repeat' split
                                                             all_goals simp
                obtain ⟨G, HG⟩ : ∃ G, Hid (goesE x s.pc t = G) := ⟨_, hid rfl⟩
                obtain ⟨gn, HGN⟩ : ∃ gn, Hid (G.length = gn) := ⟨_, hid rfl⟩
                have HC : Hid (∀ wx, Sat W wx (blk xb (.cells #[.int .i64 op, .int .i64 x.a, .int .i64 x.b, .int .i64 x.c] 36 (0, 0)) :: row 3 1 (some ⟨lb, 0, none⟩) j j (i64s' s.l) :: row 4 1 (some ⟨ob, 0, none⟩) j j (boolsV (s.o.set s.pc false)) :: arch h :: L) → Calls Tryd.prog 53 #[.agg #[.int .i64 op, .int .i64 x.a, .int .i64 x.b, .int .i64 x.c], .int .i64 (s.pc : Nat), .int .i64 t] wx fun e w' => ∃ ga gb, e = .returned (.tuple #[.slice ga gn gn, .slice gb gn gn]) ∧ Sat W w' (row 3 1 ga gn gn (i64s' (G.map (·.1))) :: row 3 1 gb gn gn (i64s' (G.map (·.2))) :: blk xb (.cells #[.int .i64 op, .int .i64 x.a, .int .i64 x.b, .int .i64 x.c] 36 (0, 0)) :: row 3 1 (some ⟨lb, 0, none⟩) j j (i64s' s.l) :: row 4 1 (some ⟨ob, 0, none⟩) j j (boolsV (s.o.set s.pc false)) :: arch h :: L)) := by
                  refine hid fun wx SX => ?_
                  have h9 := goes_any SX x (s.pc : Nat) t (by omega) (by omega)
                  unfold InVals at h9
                  rw [HOP.out, HG.out, HGN.out] at h9
                  refine h9.mono ?_
                  rintro e w' ⟨a, b, n0, rfl, rfl, s1⟩
                  exact ⟨a, b, rfl, s1⟩
                rw [HG.out] at hgp hgl HSTEP
                rw [HGN.out] at hgl
                have HGP := hid hgp
                clear hgp hnb
                have SS := S8
                have x0 : World.cell? _ ⟨xb, 0, none⟩ = some (.int .i64 op) := S8.out.cell 0
                have x1 : World.cell? _ ⟨xb, 1, none⟩ = some (.int .i64 x.a) := S8.out.cell 1
                have x2 : World.cell? _ ⟨xb, 2, none⟩ = some (.int .i64 x.b) := S8.out.cell 2
                have x3 : World.cell? _ ⟨xb, 3, none⟩ = some (.int .i64 x.c) := S8.out.cell 3
                obtain ⟨_, _, hg, hc, _⟩ := S8.out.swap.rowCells (by omega)
                cases hg
                have l0 := hc s.pc (by omega)
                rw [get64 HTT.out, Nat.zero_add] at l0
                clear hc
                go_upto_region 19 with fail
                go_cut [11, 12] from 84 to 92 (fun v11 v12 wd => ∃ ga gb, v11 = .slice ga gn gn ∧ v12 = .slice gb gn gn ∧ Hid (Sat W wd (row 3 1 ga gn gn (i64s' (G.map (·.1))) :: row 3 1 gb gn gn (i64s' (G.map (·.2))) :: blk xb (.cells #[.int .i64 op, .int .i64 x.a, .int .i64 x.b, .int .i64 x.c] 36 (0, 0)) :: row 3 1 (some ⟨lb, 0, none⟩) j j (i64s' s.l) :: row 4 1 (some ⟨ob, 0, none⟩) j j (boolsV (s.o.set s.pc false)) :: arch h :: L)))
                case first =>
                  go_region_law (first
                    | (go_simp
                       go_at_call 53
                       with_reducible refine (HC.out _ SS.out.drew).mono ?_
                       rintro e w2 ⟨ga, gb, rfl, s1⟩
                       clear S8 SS x0 x1 x2 x3 l0
                       have S9 := hid s1
                       clear s1))
                  all_goals go_wp2_with fail
                  all_goals go_meet
                  all_goals exact ⟨_, _, rfl, rfl, S9⟩
                case rest =>
                  obtain ⟨ga, gb, rfl, rfl, S9⟩ := hcut
                  clear S8 SS x0 x1 x2 x3 l0 HC
                  have SA : Hid (Sat W _ (row 3 1 (some ⟨lb, 0, none⟩) j j (i64s' s.l) :: row 4 1 (some ⟨ob, 0, none⟩) j j (boolsV (s.o.set s.pc false)) :: row 3 1 ga gn gn (i64s' (G.map (·.1))) :: row 3 1 gb gn gn (i64s' (G.map (·.2))) :: arch h :: L)) := hid (S9.out.rot3.drop.rot4.rot4)
                  clear S9
                  go_wp2_with fail
                  go_loopw [10, 95] (fun nv iv wr2 => ∃ (i : Nat) (s1 : Tr), i ≤ gn ∧ iv = .int .i64 i ∧ nv = .int .i64 (s1.next : Nat) ∧ s1.pc = s.pc ∧ Hid (ways j { s with o := s.o.set s.pc false, next := s.pc + 1 } G = ways j s1 (G.drop i)) ∧ Hid (TrOk j s1) ∧ Hid (Sat W wr2 (row 3 1 (some ⟨lb, 0, none⟩) j j (i64s' s1.l) :: row 4 1 (some ⟨ob, 0, none⟩) j j (boolsV s1.o) :: row 3 1 ga gn gn (i64s' (G.map (·.1))) :: row 3 1 gb gn gn (i64s' (G.map (·.2))) :: arch h :: L))) (fun _ iv _ => gn - (intOf iv).toNat)
                  case atStart => exact ⟨0, { s with o := s.o.set s.pc false, next := s.pc + 1 }, Nat.zero_le _, rfl, by simp, rfl, hid (by simp), HCL, SA⟩
                  case round =>
                    obtain ⟨i, s1, hi, rfl, rfl, hpc1, HW, HT1, S⟩ := hrel
                    clear SA
                    by_cases hlt : i < gn
                    · obtain ⟨⟨pa, pw⟩, hp⟩ : ∃ p, G[i]? = some p := ⟨_, List.getElem?_eq_getElem (by rw [HGN.out]; exact hlt)⟩
                      obtain ⟨hp1, hp2⟩ := HGP.out _ (List.mem_of_getElem? hp)
                      simp only at hp1 hp2
                      obtain ⟨ag, ao, rfl, a0⟩ := S.out.rot3.rowRd i _ (get64 (n := pa) (by rw [List.getElem?_map, hp]; rfl))
                      obtain ⟨bg, bo, rfl, b0⟩ := S.out.rot4.rowRd i _ (get64 (n := pw) (by rw [List.getElem?_map, hp]; rfl))
                      have hdr : G.drop i = (pa, pw) :: G.drop (i + 1) := by
                        obtain ⟨hh, hh2⟩ := List.getElem?_eq_some_iff.1 hp
                        rw [List.drop_eq_getElem_cons hh, hh2]
                      rw [hdr] at HW
                      have HP := hid hp
                      clear hdr hp
                      have hig : ((i : Nat) : Int) < (gn : Int) := by omega
                      by_cases hja : (j : Int) ≤ pa
                      · have hstep := HSTEP.out
                        rw [HL.out, HW.out, ways, show way j s1 (pa, pw) = .inr 13 from if_pos hja] at hstep
                        simp only at hstep
                        have hrun := runT_bad (k := k) hcl hstep
                        rw [← HR.out] at hrun
                        have HRUN := hid hrun
                        clear hrun hstep
                        go_wp2_with fail
                        go_ret3
                        exact ⟨_, s.pc, 13, rfl, S.out.drop.drop.drop.drop, by rw [HRUN.out]; exact ⟨rfl, rfl⟩⟩
                      · obtain ⟨tn, rfl⟩ : ∃ tn : Nat, pa = tn := ⟨pa.toNat, by omega⟩
                        have htn : ((tn : Nat) : Int) < (j : Int) := by omega
                        obtain ⟨lv, hlv⟩ : ∃ lv, s1.l[tn]? = some lv := ⟨_, List.getElem?_eq_getElem (by rw [HT1.out.l]; omega)⟩
                        obtain ⟨_, _, hg, hc, hf⟩ := S.out.rowCells (by omega)
                        cases hg
                        have l0 := hc tn (by omega)
                        rw [get64 hlv, Nat.zero_add] at l0
                        have f0 := hf (0 + tn)
                        rw [Nat.zero_add] at f0
                        clear hc hf
                        have HLV := hid hlv
                        clear hlv
                        obtain ⟨bad2, HBAD2⟩ : ∃ bad2, Hid (decide ((0 ≤ lv ∧ lv ≠ pw) ∨ 8 < pw) = bad2) := ⟨_, hid rfl⟩
                        have hjn : decide ((j : Int) ≤ (tn : Int)) = false := decide_eq_false hja
                        go_upto_region 25 with fail
                        go_cut [107] from 108 to 130 (fun v wd => v = .bool bad2 ∧ Hid (Sat W wd (row 3 1 (some ⟨lb, 0, none⟩) j j (i64s' s1.l) :: row 4 1 (some ⟨ob, 0, none⟩) j j (boolsV s1.o) :: row 3 1 (some ⟨ag, ao, none⟩) gn gn (i64s' (G.map (·.1))) :: row 3 1 (some ⟨bg, bo, none⟩) gn gn (i64s' (G.map (·.2))) :: arch h :: L)))
                        case first =>
                          by_cases q0 : 0 ≤ lv
                          · have g0 : decide (0 ≤ lv) = true := decide_eq_true q0
                            by_cases q1 : lv = pw
                            · subst q1
                              obtain rfl : bad2 = decide (8 < lv) := by rw [← HBAD2.out]; simp
                              go_quiet (fail)
                              go_wp2_with fail
                              all_goals go_meet
                              all_goals exact ⟨rfl, hid (S.out.drewN _)⟩
                            · have q2 : (lv != pw) = true := by simpa using q1
                              obtain rfl : bad2 = true := by rw [← HBAD2.out]; simp [q0, q1]
                              go_quiet (fail)
                              go_wp2_with fail
                              all_goals go_meet
                              all_goals exact ⟨rfl, hid (S.out.drewN _)⟩
                          · have g0 : decide (0 ≤ lv) = false := decide_eq_false q0
                            obtain rfl : bad2 = decide (8 < pw) := by rw [← HBAD2.out]; simp [q0]
                            go_quiet (fail)
                            go_wp2_with fail
                            all_goals go_meet
                            all_goals exact ⟨rfl, hid (S.out.drewN _)⟩
                        case rest =>
                          obtain ⟨rfl, S9⟩ := hcut
                          clear S a0 b0 l0 f0
                          cases bad2 with
                          | true =>
                            have hstep := HSTEP.out
                            rw [HL.out, HW.out, ways, show way j s1 ((tn : Int), pw) = .inr 14 from by
                              unfold way
                              rw [if_neg hja, if_pos]
                              rw [Int.toNat_natCast, List.getD_eq_getElem?_getD, HLV.out]
                              exact of_decide_eq_true HBAD2.out] at hstep
                            simp only at hstep
                            have hrun := runT_bad (k := k) hcl hstep
                            rw [← HR.out] at hrun
                            have HRUN := hid hrun
                            clear hrun hstep
                            go_wp2_with fail
                            go_ret3
                            exact ⟨_, s.pc, 14, rfl, S9.out.drop.drop.drop.drop, by rw [HRUN.out]; exact ⟨rfl, rfl⟩⟩
                          | false =>
                            have hnb2 := of_decide_eq_false HBAD2.out
                            have hlvd : s1.l.getD tn 0 = lv := by rw [List.getD_eq_getElem?_getD, HLV.out]; rfl
                            obtain ⟨_, _, hg, b0⟩ := S9.out.rot4.rowRd i _ (get64 (n := pw) (by rw [List.getElem?_map, HP.out]; rfl))
                            cases hg
                            obtain ⟨_, _, hg, l0⟩ := S9.out.rowRd tn _ (get64 HLV.out)
                            cases hg
                            rw [Nat.zero_add] at l0
                            obtain ⟨_, _, hg, _, hf⟩ := S9.out.rowCells (by omega)
                            cases hg
                            have f0 := hf (0 + tn)
                            rw [Nat.zero_add] at f0
                            clear hf
                            by_cases hneg : lv < 0
                            · have hway : way j s1 ((tn : Int), pw) = .inl { s1 with l := s1.l.set tn pw, o := s1.o.set tn true, next := min s1.next tn } := by
                                unfold way
                                rw [if_neg hja, if_neg (by simp only [Int.toNat_natCast]; rw [hlvd]; exact hnb2), if_pos (by simp only [Int.toNat_natCast]; rw [hlvd]; exact hneg)]
                                simp only [Int.toNat_natCast]
                              have hto := (way_ok HT1.out hp1 hp2 hway).1
                              have HTO := hid hto
                              have hwn := HW.out
                              rw [ways, hway] at hwn
                              simp only at hwn
                              have HWN := hid hwn
                              have s10 := S9.out.rowSet tn (by omega) (.int .i64 pw)
                              rw [set64, Nat.zero_add] at s10
                              obtain ⟨og, oo, hg, o0⟩ := s10.swap.rowRd tn _ (getB (List.getElem?_eq_getElem (by rw [HT1.out.o]; omega)))
                              cases hg
                              rw [Nat.zero_add] at o0
                              obtain ⟨_, _, hg, _, hf⟩ := s10.swap.rowCells (by omega)
                              cases hg
                              have f1 := hf (0 + tn)
                              rw [Nat.zero_add] at f1
                              have s11 := s10.swap.rowSet tn (by omega) (.bool true)
                              rw [setB, Nat.zero_add] at s11
                              have S11 := hid s11.swap
                              clear hf s10 s11 hwn hto hway hlvd hnb2
                              go_wp2_with fail
                              go_roundw
                              case rel => exact ⟨i + 1, { s1 with l := s1.l.set tn pw, o := s1.o.set tn true, next := min s1.next tn }, by omega, by go_num, by first | rfl | go_num | (congr 1; simp only []; omega), hpc1, HWN, HTO, S11⟩
                              case measure => simp [intOf]; omega
                            · have hway : way j s1 ((tn : Int), pw) = .inl s1 := by
                                unfold way
                                rw [if_neg hja, if_neg (by simp only [Int.toNat_natCast]; rw [hlvd]; exact hnb2), if_neg (by simp only [Int.toNat_natCast]; rw [hlvd]; exact hneg)]
                              have hwn := HW.out
                              rw [ways, hway] at hwn
                              simp only at hwn
                              have HWN := hid hwn
                              clear hwn hway hlvd hnb2
                              go_wp2_with fail
                              go_roundw
                              case rel => exact ⟨i + 1, s1, by omega, by go_num, rfl, hpc1, HWN, HT1, S9⟩
                              case measure => simp [intOf]; omega
                    · obtain rfl : i = gn := by omega
                      have hw := HW.out
                      rw [List.drop_of_length_le (by rw [HGN.out]; exact Nat.le_refl _), ways] at hw
                      obtain ⟨o1, o2, o3, o4, o5⟩ := ways_ok HCL.out HGP.out hw
                      have hstep := HSTEP.out
                      rw [HL.out, hw] at hstep
                      simp only at hstep
                      have hrun := runT_go (k := k) hcl hstep
                      rw [← HR.out] at hrun
                      have HRUN := hid hrun
                      have hmd := meas_drop (s' := s1) hpc o4 o5
                      have HMM : Hid (meas j { s1 with pc := s1.next } < k) := hid (by have := HM.out; omega)
                      have HTN : Hid (TrOk j { s1 with pc := s1.next }) := hid ⟨o1.l, o1.o, o1.next, o1.next, o1.vals, o1.opn⟩
                      clear hrun hstep hmd o1 o2 o3 o4 o5 hw HR HM
                      go_wp2_with fail
                      go_roundg k
                      all_goals first
                        | omega
                        | exact ⟨_, { s1 with pc := s1.next }, rfl, rfl, HTN, HMM, HRUN, hid (S.out.rot4.drop.rot3.drop)⟩
        · have hd : decide ((s.pc : Int) < (j : Int)) = false := decide_eq_false (by omega)
          have hrun := runT_end (code := f.code) (k := k) (s := s) (by rw [HL.out]; exact hpc)
          rw [← HR.out] at hrun
          have HRUN := hid hrun
          clear hrun HR
          go_wp2_with fail
          go_ret3
          exact ⟨_, 0, 0, rfl, S.out.drop.drop, by rw [HRUN.out]; exact ⟨rfl, rfl⟩⟩
end
end Go.Proofs.YtohdhckafebmhaaDoor
