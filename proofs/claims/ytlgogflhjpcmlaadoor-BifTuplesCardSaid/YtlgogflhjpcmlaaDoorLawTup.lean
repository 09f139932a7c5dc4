/-
  BifTuples: the law's own walk. (Written by wip/gen/gen_lawtup.py.)
-/
import Derived.Test.YtlgogflhjpcmlaaDoorBifTu
import Derived.LaidSub
import Derived.MakeChecks
import Derived.Lib.LaidTab
import Derived.Deep.DeepCutAuto
import Derived.Deep.CutBlock
namespace Go.Proofs.YtlgogflhjpcmlaaDoor
open Go.RowKit
set_option maxHeartbeats 4000000
set_option maxRecDepth 100000
theorem tabS_laid {W : World} {l : List (String × DataW Unit)} (h : laidMetH Tryd.prog l W)
    (hl : (l.filter fun x => x.1 == "strings.asciiSpace") = [("strings.asciiSpace", Lib.tabData .u8 Lib.asciiSpaceTab)]) : TabS (heapOf W) := by
  have h1 := h.filter (fun x => x.1 == "strings.asciiSpace")
  rw [hl, MakeChecks.laidMetH_plain _ _ _ (by rfl)] at h1
  exact tabS_of (Lib.tabIs_of_head (g := 0) (t := 79) (e := 5) (n := 256) (by kernel_rfl) (by kernel_rfl) Tryd.underlying79 Tryd.underlying5 (by kernel_rfl) (by kernel_rfl) h1)
theorem fits_wf {z : Int} (hz : (Lit.int .i64 z).wf = true) : fits z := by
  have hz' : (decide (-9223372036854775808 ≤ z) && decide (z ≤ 9223372036854775807)) = true := hz
  simpa [fits] using hz'
def numVals (l : List Int) : List Value := l.flatMap fun x => [.int .i64 1, .int .i64 (x), .string ⟨#[]⟩, .slice none 0 0, .slice none 0 0, .slice none 0 0]
theorem num_rd : ∀ (l : List Int) (h : Nat → Option Obj), ∃ vss, TsIn h (l.map tN) vss ∧ vss.flatten = numVals l
  | [], _ => ⟨[], rfl, rfl⟩
  | x :: l, h => by
    obtain ⟨vss, q1, q2⟩ := num_rd l h
    exact ⟨[.int .i64 1, .int .i64 (x), .string ⟨#[]⟩, .slice none 0 0, .slice none 0 0, .slice none 0 0] :: vss, ⟨_, vss, rfl, in_N h x, q1⟩, by rw [List.flatten_cons, q2]; rfl⟩
theorem tuples_walk {W : World} (a0 : Option Addr) (n0 c0 : Nat) (ns : List Int) (at_ v : Int) (hT : TabS (heapOf W)) (r0 : Rd W a0 (i64s ns)) (hn0 : n0 = ns.length) (hc0 : n0 ≤ c0) (hf : ∀ x ∈ ns, fits x) (fv : fits v) (hb : n0 ≤ 140737488355328) :
    Calls Tryd.prog 9 #[.slice a0 n0 c0, .int .i64 at_, .int .i64 v] W fun e w' => e = .returned (.bool true) ∧ Below W.heap.size W w' := by
  have HQ0 := hid hT
  have S0 := hid (Sat.startArch W)
  obtain ⟨NS, hNS⟩ : ∃ NS, ns.take 100 = NS := ⟨_, rfl⟩
  have hRr : Rd W a0 (i64s NS) := fun j u hj => r0 j u (by
    rw [← hNS] at hj
    unfold i64s at hj ⊢
    rw [List.map_take] at hj
    have hl := (List.getElem?_eq_some_iff.1 hj).1
    rw [List.getElem?_take_of_lt (by simp at hl; omega)] at hj
    exact hj)
  have HR0 := hid hRr.heapOf
  have HFN : Hid (∀ x ∈ NS, fits x) := hid (fun x hx => hf x (by rw [← hNS] at hx; exact List.mem_of_mem_take hx))
  have hm : NS.length = min 100 n0 := by rw [← hNS, List.length_take, hn0]
  obtain ⟨m, HM⟩ : ∃ m, Hid (NS.length = m) := ⟨_, rfl⟩
  rw [HM.out] at hm
  have FV := hid fv
  clear hT r0 hRr hNS hf fv hn0
  go_enter Tryd.func9, Tryd.ntmps9
  go_upto_if 22 with fail
  go_cut [0] (fun v wc => v = .slice a0 m c0 ∧ W = wc)
  case first =>
    by_cases h10 : 100 < n0
    · have hc10 : 100 ≤ c0 := by omega
      have h10m : m = 100 := by omega
      clear hm
      subst h10m
      go_wp2_with fail
      go_meet
      first | exact ⟨rfl, rfl⟩ | trivial
    · have h10m : m = n0 := by omega
      clear hm
      subst h10m
      go_wp2_with fail
      go_meet
      first | exact ⟨rfl, rfl⟩ | trivial
  case rest =>
    obtain ⟨rfl, rfl⟩ := hcut
    have hm10 : m ≤ 100 := by omega
    clear hm hc0 hb
    obtain ⟨tb, HTB⟩ : ∃ tb, Hid (W.heap.size = tb) := ⟨_, hid rfl⟩
    have SB := hid ((S0.out.allocAt (k := W.heap.size) (.cells #[.int .i64 5, .int .i64 0, .string ⟨#[]⟩, .slice none 0 0, .slice none 0 0, .slice none 0 0] 35) rfl).rowNil (e := 35) (size := 6)).rot3.unrot3.rot3
    rw [HTB.out] at SB
    clear S0
    go_wp2_with fail
    rw [HTB.out]
    go_loopw [8] (fun iv wr => ∃ (i : Nat) (A : Option Addr) (ca : Nat), i ≤ m ∧ iv = .int .i64 i ∧ Hid (Sat W wr [arch (heapOf W), blk tb (.cells #[.int .i64 5, .int .i64 0, .string ⟨#[]⟩, .slice A i ca, .slice none 0 0, .slice none 0 0] 35 (0, 0)), row 35 6 A i ca (numVals (NS.take i))])) (fun iv _ => m - (intOf iv).toNat)
    case atStart => exact ⟨0, none, 0, Nat.zero_le _, rfl, hid (SB.out.sel [0, 2, 1])⟩
    case round =>
      obtain ⟨i, A, ca, hi, rfl, S⟩ := hrel
      clear SB
      by_cases hlt : i < m
      · skip
        obtain ⟨x, hx⟩ : ∃ x, NS[i]? = some x := ⟨_, List.getElem?_eq_getElem (by rw [HM.out]; exact hlt)⟩
        obtain ⟨g, off, rfl, e0⟩ := HR0.out i _ (get_i64s hx)
        have HX := hid hx
        have HF : Hid (∀ (w' : World) (M : List HP), Sat W w' (arch (heapOf W) :: blk tb (.cells #[.int .i64 5, .int .i64 0, .string ⟨#[]⟩, .slice A i ca, .slice none 0 0, .slice none 0 0] 35 (0, 0)) :: M) → World.cell? w' ⟨tb, 3, none⟩ = some (.slice A i ca) ∧ World.cell? w' ⟨g, off + i, none⟩ = some (.int .i64 x)) := hid (fun w' M s => ⟨(s.swap.cell 3).trans rfl, s.cellIn e0⟩)
        have hrep : numVals (NS.take (i + 1)) = numVals (NS.take i) ++ [.int .i64 1, .int .i64 (x), .string ⟨#[]⟩, .slice none 0 0, .slice none 0 0, .slice none 0 0] := by rw [List.take_add_one, hx]; simp [numVals]
        have HREP := hid hrep
        clear hx hrep e0
        go_upto_region 7 with fail
        have SS := hid S.out.drew
        have hSw := HF.out _ _ SS.out
        refine wp_region_noPanic ?_
        refine wp_region_L (S := fun w' => World.cell? w' ⟨tb, 3, none⟩ = some (.slice A i ca) ∧ World.cell? w' ⟨g, off + i, none⟩ = some (.int .i64 x)) 10 (by kernel_rfl) ?_
        refine wpAnyL_pure (i := 0) (d := 32) (v := ?_) rfl (by kernel_rfl) (by kernel_rfl) (by kernel_rfl) (by kernel_rfl) (by decide) (fun _ _ _ h => h) (Or.inl ⟨by rfl, ?_⟩) (fun _ => hSw) ?_
        rotate_left
        · intro w _; go_simp; all_goals with_reducible rfl
        try simp only [Act.put, List.setIfInBounds_toArray, List.set_cons_zero, List.set_cons_succ]
        refine wpAnyL_load (i := 1) (d := 33) (v := ?_) rfl (by kernel_rfl) (by kernel_rfl) (by kernel_rfl) (by kernel_rfl) (by decide) (by kernel_rfl) (by kernel_rfl) (fun _ _ _ h => h) (Or.inl ⟨by rfl, ?_⟩) hSw ?_
        rotate_left
        · intro w hSw; (try dsimp only at hSw); go_simp; all_goals with_reducible rfl
        try simp only [Act.put, List.setIfInBounds_toArray, List.set_cons_zero, List.set_cons_succ]
        refine wpAnyL_pure (i := 2) (d := 34) (v := ?_) rfl (by kernel_rfl) (by kernel_rfl) (by kernel_rfl) (by kernel_rfl) (by decide) (fun _ _ _ h => h) (Or.inl ⟨by rfl, ?_⟩) (fun _ => hSw) ?_
        rotate_left
        · intro w _; go_simp; all_goals with_reducible rfl
        try simp only [Act.put, List.setIfInBounds_toArray, List.set_cons_zero, List.set_cons_succ]
        refine wpAnyL_pure (i := 3) (d := 35) (v := ?_) rfl (by kernel_rfl) (by kernel_rfl) (by kernel_rfl) (by kernel_rfl) (by decide) (fun _ _ _ h => h) (Or.inl ⟨by rfl, ?_⟩) (fun _ => hSw) ?_
        rotate_left
        · intro w _; go_simp; all_goals with_reducible rfl
        try simp only [Act.put, List.setIfInBounds_toArray, List.set_cons_zero, List.set_cons_succ]
        refine wpAnyL_pure (i := 4) (d := 36) (v := ?_) rfl (by kernel_rfl) (by kernel_rfl) (by kernel_rfl) (by kernel_rfl) (by decide) (fun _ _ _ h => h) (Or.inl ⟨by rfl, ?_⟩) (fun _ => hSw) ?_
        rotate_left
        · intro w _; go_simp; all_goals with_reducible rfl
        try simp only [Act.put, List.setIfInBounds_toArray, List.set_cons_zero, List.set_cons_succ]
        refine wpAnyL_load (i := 5) (d := 37) (v := ?_) rfl (by kernel_rfl) (by kernel_rfl) (by kernel_rfl) (by kernel_rfl) (by decide) (by kernel_rfl) (by kernel_rfl) (fun _ _ _ h => h) (Or.inl ⟨by rfl, ?_⟩) hSw ?_
        rotate_left
        · intro w hSw; (try dsimp only at hSw); go_simp; all_goals with_reducible rfl
        try simp only [Act.put, List.setIfInBounds_toArray, List.set_cons_zero, List.set_cons_succ]
        refine wpAnyL_ready (rs := [6]) (by kernel_rfl) (by simp) ?_
        refine AllL.cons (o := _) rfl (fun K hK => ?_) AllL.nil
        go_simp
        go_at_call 21
        with_reducible refine (num8_any SS.out _).mono ?_
        rintro e wn ⟨rfl, s⟩
        replace SS := hid s
        clear s
        replace hSw := HF.out _ _ SS.out
        refine hK.out _ _ (fun _ => hSw) ?_
        clear hK K
        try simp only [Act.put, List.setIfInBounds_toArray, List.set_cons_zero, List.set_cons_succ]
        refine wpAnyL_ready (rs := [7]) (by kernel_rfl) (by simp) ?_
        refine AllL.cons (o := _) rfl (fun K hK => ?_) AllL.nil
        go_simp
        replace hSw := HF.out _ _ (SS.out.alloc' (.cells #[.int .i64 1, .int .i64 (x), .string ⟨#[]⟩, .slice none 0 0, .slice none 0 0, .slice none 0 0] 35))
        replace hSw := HF.out _ _ ((SS.out.alloc (.cells #[.int .i64 1, .int .i64 (x), .string ⟨#[]⟩, .slice none 0 0, .slice none 0 0, .slice none 0 0] 35)).drop)
        refine hK.out _ _ (fun _ => hSw) ?_
        clear hK K
        try simp only [Act.put, List.setIfInBounds_toArray, List.set_cons_zero, List.set_cons_succ]
        refine wpAnyL_ready (rs := [8]) (by kernel_rfl) (by simp) ?_
        refine AllL.cons (o := _) rfl (fun K hK => ?_) AllL.nil
        refine step_pushN rfl _ _ rfl elemT rfl SS.out.rot3 [.int .i64 1, .int .i64 (x), .string ⟨#[]⟩, .slice none 0 0, .slice none 0 0, .slice none 0 0] rfl rfl rfl (by simp [Value.oneCell']) (by unfold maxLen; omega) (by omega) ?_
        intro a' c' w4 s4 ha' hz
        replace SS := hid s4.unrot3
        clear s4 ha' hz
        replace hSw := HF.out _ _ SS.out
        refine hK.out _ _ (fun _ => hSw) ?_
        clear hK K
        try simp only [Act.put, List.setIfInBounds_toArray, List.set_cons_zero, List.set_cons_succ]
        refine wpAnyL_pure (i := 9) (d := 41) (v := ?_) rfl (by kernel_rfl) (by kernel_rfl) (by kernel_rfl) (by kernel_rfl) (by decide) (fun _ _ _ h => h) (Or.inl ⟨by rfl, ?_⟩) (fun _ => hSw) ?_
        rotate_left
        · intro w _; go_simp; all_goals with_reducible rfl
        try simp only [Act.put, List.setIfInBounds_toArray, List.set_cons_zero, List.set_cons_succ]
        have c3 := SS.out.swap.cell 3
        have f3 := SS.out.swap.free 3
        simp only [List.getElem?_toArray, List.getElem?_cons_succ, List.getElem?_cons_zero] at c3
        refine wpAnyL_ready (rs := [10]) (by kernel_rfl) (by simp) ?_
        refine AllL.cons (o := _) rfl (fun K hK => ?_) AllL.nil
        go_simp
        refine hK.out _ _ (fun hv => absurd hv (by decide +kernel)) ?_
        clear hK K
        try simp only [Act.put, List.setIfInBounds_toArray, List.set_cons_zero, List.set_cons_succ]
        have S9 := hid (SS.out.swap.set 3 (.slice a' (i + 1) c')).swap
        clear hSw HF c3 f3 SS
        refine wpAnyL_done (by kernel_rfl) ?_ _
        refine NoPanic.normal ?_
        go_wp2_with fail
        go_roundw
        case rel => exact ⟨i + 1, a', c', by omega, by go_num, by rw [HREP.out]; exact S9⟩
        case measure => simp [intOf]; omega
      · obtain rfl : i = m := by omega
        have htk : numVals (NS.take i) = numVals NS := by rw [List.take_of_length_le (by rw [HM.out]; exact Nat.le_refl _)]
        have s1 := S.out
        rw [htk] at s1
        have hrl := s1.rot3.rowLen
        obtain ⟨hh, le, rr, s2⟩ := store_row (s1.rot3)
        obtain ⟨vss, q1, q2⟩ := num_rd NS hh
        rw [← q2] at rr
        have HT : Hid (TIn hh (tupT NS) [.int .i64 5, .int .i64 0, .string ⟨#[]⟩, .slice A i ca, .slice none 0 0, .slice none 0 0]) := hid (by
          have := TIn.of (h := hh) (t := tupT NS) (ia := A) (ra := none) (ba := none) (ic := ca) (rc := 0) (bc := 0) (LIn.of_rd q1 rr) (LIn.nil _ _) (RdIn.nil _ _) ⟨by show (NS.map tN).length ≤ ca; rw [List.length_map, HM.out]; exact hrl.2.1, Nat.le_refl _, Nat.le_refl _, hrl.2.2, by unfold maxLen; omega, by unfold maxLen; omega⟩
          have e : tVals (tupT NS) A ca none 0 none 0 = [.int .i64 5, .int .i64 0, .string ⟨#[]⟩, .slice A i ca, .slice none 0 0, .slice none 0 0] := by unfold tVals tupT; simp only [T.k, T.n, T.nm, T.is, T.rs, T.bs, List.length_map, HM.out, List.length_nil]
          rw [e] at this; exact this)
        have HQ := hid (HQ0.out.mono le)
        have HL := hid le
        have S2 := hid s2
        have HR := hid (HR0.out.mono le)
        clear htk s1 hrl rr s2 q1 q2 le S HQ0 HR0
        have S := S2
        clear S2
        obtain ⟨ws, HWS⟩ : ∃ ws, Hid (wr = ws) := ⟨_, hid rfl⟩
        rw [HWS.out] at S ⊢
        clear HWS
        have HNL : Hid (NS.length ≤ 60000) := hid (by rw [HM.out]; omega)
        obtain ⟨kk, HKK⟩ : ∃ kk, Hid (at_ % ((i : Int) + 2) = kk) := ⟨_, hid rfl⟩
        have hk0 : 0 ≤ kk := by rw [← HKK.out]; exact Int.emod_nonneg _ (by omega)
        have hk1 : kk < (i : Int) + 2 := by rw [← HKK.out]; exact Int.emod_lt_of_pos _ (by omega)
        have FK : Hid (fits kk) := hid (by unfold fits; omega)
        have hp2 : IntKind.i64.wrap ((i : Int) + 2) = (i : Int) + 2 := by rw [wrapi]; unfold wrap64; omega
        have hp3 : wrap64 ((i : Int) + 2) = (i : Int) + 2 := (wrapi _).symm.trans hp2
        go_wp2_with fail
        refine (place_any at_ ((i : Int) + 2) _ (by omega) (by omega)).mono ?_
        rintro e _ ⟨rfl, rfl⟩
        rw [HKK.out]
        clear hp2 hp3
        by_cases hin : 1 ≤ kk ∧ kk ≤ i
        · obtain ⟨j, rfl⟩ : ∃ j : Nat, kk = (j : Int) + 1 := ⟨(kk - 1).toNat, by omega⟩
          have hjm : j < i := by omega
          have HSO : Hid (setO ((j : Int) + 1) (tupT NS) (tN v) = some (tupT (NS.set j v))) := hid (by unfold setO setT tupT; simp only [T.k, T.n, T.nm, T.is, T.rs, T.bs, List.length_map, HM.out]; rw [if_pos (by omega), show ((j : Int) + 1 - 1).toNat = j by omega, List.map_set])
          have HSL : Hid ((tupT (NS.set j v)).is.length = i) := hid (by unfold tupT; simp only [T.is, List.length_map, List.length_set, HM.out])
          obtain ⟨x, hx⟩ : ∃ x, NS[j]? = some x := ⟨_, List.getElem?_eq_getElem (by rw [HM.out]; exact hjm)⟩
          have HEO : Hid (elemO ((j : Int) + 1) (NS.map tN) = some (tN x)) := hid (by unfold elemO; rw [List.length_map, HM.out, if_pos (by omega), show ((j : Int) + 1 - 1).toNat = j by omega, List.getElem?_map, hx]; rfl)
          have HNL2 : Hid ((NS.set j v).length ≤ 60000) := hid (by rw [List.length_set]; exact HNL.out)
          have HFN2 : Hid (∀ y ∈ NS.set j v, fits y) := hid (fun y hy => (List.mem_or_eq_of_mem_set hy).elim (HFN.out y) (fun e => e ▸ FV.out))
          clear hx HKK
          go_upto_region 9 with fail
          go_cut [10, 11] from 47 to 56 (fun pv qv wd => ∃ (yb : Nat) (ju : Option Addr) (jd : Nat) (ru : Option Addr) (rd : Nat) (bu : Option Addr) (bd : Nat) (h' : Nat → Option Obj), pv = .pointer (some ⟨yb, 0, none⟩) ∧ qv = .bool true ∧ Hid (Le hh h') ∧ Hid (TIn h' (tupT (NS.set j v)) [.int .i64 5, .int .i64 0, .string ⟨#[]⟩, .slice ju i jd, .slice ru 0 rd, .slice bu 0 bd]) ∧ Hid (Sat W wd (arch h' :: blk yb (.cells #[.int .i64 5, .int .i64 0, .string ⟨#[]⟩, .slice ju i jd, .slice ru 0 rd, .slice bu 0 bd] 35 (0, 0)) :: blk tb (.cells #[.int .i64 5, .int .i64 0, .string ⟨#[]⟩, .slice A i ca, .slice none 0 0, .slice none 0 0] 35 (0, 0)) :: [])))
          case first =>
            refine wp_region_noPanic ?_
            have hSw := cells6 S.out.drew.swap
            refine wp_region_L (S := fun w' => World.cell? w' ⟨tb, 0, none⟩ = some (.int .i64 5) ∧ World.cell? w' ⟨tb, 1, none⟩ = some (.int .i64 0) ∧ World.cell? w' ⟨tb, 2, none⟩ = some (.string ⟨#[]⟩) ∧ World.cell? w' ⟨tb, 3, none⟩ = some (.slice A i ca) ∧ World.cell? w' ⟨tb, 4, none⟩ = some (.slice none 0 0) ∧ World.cell? w' ⟨tb, 5, none⟩ = some (.slice none 0 0)) 5 (by kernel_rfl) ?_
            refine wpAnyL_pure (i := 0) (d := 48) (v := ?_) rfl (by kernel_rfl) (by kernel_rfl) (by kernel_rfl) (by kernel_rfl) (by decide) (fun _ _ _ h => h) (Or.inl ⟨by rfl, ?_⟩) (fun _ => hSw) ?_
            rotate_left
            · intro w _; go_simp; all_goals with_reducible rfl
            try simp only [Act.put, List.setIfInBounds_toArray, List.set_cons_zero, List.set_cons_succ]
            refine wpAnyL_pure (i := 3) (d := 51) (v := ?_) rfl (by kernel_rfl) (by kernel_rfl) (by kernel_rfl) (by kernel_rfl) (by decide) (fun _ _ _ h => h) (Or.inl ⟨by rfl, ?_⟩) (fun _ => hSw) ?_
            rotate_left
            · intro w _; go_simp; all_goals with_reducible rfl
            try simp only [Act.put, List.setIfInBounds_toArray, List.set_cons_zero, List.set_cons_succ]
            refine wpAnyL_load (i := 2) (d := 50) (v := ?_) rfl (by kernel_rfl) (by kernel_rfl) (by kernel_rfl) (by kernel_rfl) (by decide) (by kernel_rfl) (by kernel_rfl) (fun _ _ _ h => h) (Or.inl ⟨by rfl, ?_⟩) hSw ?_
            rotate_left
            · intro w hSw; (try dsimp only at hSw); go_simp; all_goals with_reducible rfl
            try simp only [Act.put, List.setIfInBounds_toArray, List.set_cons_zero, List.set_cons_succ]
            have SS := hid S.out.drew
            refine wpAnyL_ready (rs := [1, 10]) (by kernel_rfl) (by simp) ?_
            refine AllL.cons (o := _) rfl (fun K hK => ?_) (AllL.cons (o := _) rfl (fun K hK => ?_) AllL.nil)
            · skip
              go_simp
              go_at_call 21
              with_reducible refine (num8_any SS.out _).mono ?_
              rintro e wn0 ⟨rfl, s⟩
              replace SS := hid s
              clear s
              replace hSw := cells6 SS.out.swap
              refine hK.out _ _ (fun _ => hSw) ?_
              clear hK K
              try simp only [Act.put, List.setIfInBounds_toArray, List.set_cons_zero, List.set_cons_succ]
              refine wpAnyL_ready (rs := [4, 10]) (by kernel_rfl) (by simp) ?_
              refine AllL.cons (o := _) rfl (fun K hK => ?_) (AllL.cons (o := _) rfl (fun K hK => ?_) AllL.nil)
              · skip
                go_simp
                go_at_call 21
                with_reducible refine (num8_any SS.out _).mono ?_
                rintro e wn1 ⟨rfl, s⟩
                replace SS := hid s
                clear s
                replace hSw := cells6 SS.out.swap
                refine hK.out _ _ (fun _ => hSw) ?_
                clear hK K
                try simp only [Act.put, List.setIfInBounds_toArray, List.set_cons_zero, List.set_cons_succ]
                refine wpAnyL_ready (rs := [5, 10]) (by kernel_rfl) (by simp) ?_
                refine AllL.cons (o := _) rfl (fun K hK => ?_) (AllL.cons (o := _) rfl (fun K hK => ?_) AllL.nil)
                · skip
                  go_simp
                  replace SS := hid (SS.out.allocAt (k := wn1.heap.size) (.cells #[.int .i64 1, .int .i64 (((j : Int) + 1)), .string ⟨#[]⟩, .slice none 0 0, .slice none 0 0, .slice none 0 0, .int .i64 5, .int .i64 0, .string ⟨#[]⟩, .slice A i ca, .slice none 0 0, .slice none 0 0, .int .i64 1, .int .i64 (v), .string ⟨#[]⟩, .slice none 0 0, .slice none 0 0, .slice none 0 0] 35) (by simp))
                  clear hSw
                  refine hK.out _ _ (fun hv => absurd hv (by decide +kernel)) ?_
                  clear hK K
                  try simp only [Act.put, List.setIfInBounds_toArray, List.set_cons_zero, List.set_cons_succ]
                  refine wpAnyL_ready (rs := [6, 10]) (by kernel_rfl) (by simp) ?_
                  refine AllL.cons (o := _) rfl (fun K hK => ?_) (AllL.cons (o := _) rfl (fun K hK => ?_) AllL.nil)
                  · skip
                    go_simp
                    go_at_call 23
                    refine (do_setelement HQ.out SS.out ((j : Int) + 1) v NS (in_N _ _) HT.out (in_N _ _) FK.out FV.out HNL.out HFN.out).mono ?_
                    rintro e wd ⟨vs, h3, rfl, l, s, q⟩
                    rw [HSO.out] at q ⊢
                    replace q : TIn h3 (tupT (NS.set j v)) vs := q
                    obtain ⟨ju, jd, ru, rd, bu, bd, rfl, _⟩ := id q.vals
                    replace q : TIn h3 (tupT (NS.set j v)) [.int .i64 5, .int .i64 0, .string ⟨#[]⟩, .slice ju i jd, .slice ru 0 rd, .slice bu 0 bd] := by have := q; unfold tVals at this; rw [HSL.out] at this; exact this
                    replace SS := hid s
                    have LL := hid l
                    have HRR := hid q
                    clear s l q
                    unfold tVals
                    rw [HSL.out]
                    refine hK.out _ _ (fun hv => absurd hv (by decide +kernel)) ?_
                    clear hK K
                    try simp only [Act.put, List.setIfInBounds_toArray, List.set_cons_zero, List.set_cons_succ]
                    refine wpAnyL_pure (i := 7) (d := 47) (v := ?_) rfl (by kernel_rfl) (by kernel_rfl) (by kernel_rfl) (by kernel_rfl) (by decide) (fun _ _ _ h => h) (Or.inl ⟨by rfl, ?_⟩) (fun hv => absurd hv (by decide +kernel)) ?_
                    rotate_left
                    · intro w _; go_simp; all_goals with_reducible rfl
                    try simp only [Act.put, List.setIfInBounds_toArray, List.set_cons_zero, List.set_cons_succ]
                    refine wpAnyL_pure (i := 8) (d := 55) (v := ?_) rfl (by kernel_rfl) (by kernel_rfl) (by kernel_rfl) (by kernel_rfl) (by decide) (fun _ _ _ h => h) (Or.inl ⟨by rfl, ?_⟩) (fun hv => absurd hv (by decide +kernel)) ?_
                    rotate_left
                    · intro w _; go_simp; all_goals with_reducible rfl
                    try simp only [Act.put, List.setIfInBounds_toArray, List.set_cons_zero, List.set_cons_succ]
                    refine wpAnyL_pure (i := 9) (d := 56) (v := ?_) rfl (by kernel_rfl) (by kernel_rfl) (by kernel_rfl) (by kernel_rfl) (by decide) (fun _ _ _ h => h) (Or.inl ⟨by rfl, ?_⟩) (fun hv => absurd hv (by decide +kernel)) ?_
                    rotate_left
                    · intro w _; go_simp; all_goals with_reducible rfl
                    try simp only [Act.put, List.setIfInBounds_toArray, List.set_cons_zero, List.set_cons_succ]
                    refine wpAnyL_ready (rs := [10]) (by kernel_rfl) (by simp) ?_
                    refine AllL.cons (o := _) rfl (fun K hK => ?_) AllL.nil
                    have S0 := SS
                    go_simp
                    replace SS := hid (SS.out.allocAt (k := wd.heap.size) (.cells #[.int .i64 0, .int .i64 0, .string ⟨#[]⟩, .slice none 0 0, .slice none 0 0, .slice none 0 0] 35) (by simp)).swap
                    refine hK.out _ _ (fun hv => absurd hv (by decide +kernel)) ?_
                    clear hK K
                    try simp only [Act.put, List.setIfInBounds_toArray, List.set_cons_zero, List.set_cons_succ]
                    refine wpAnyL_ready (rs := [11]) (by kernel_rfl) (by simp) ?_
                    refine AllL.cons (o := _) rfl (fun K hK => ?_) AllL.nil
                    have z0 := SS.out.swap.cell 0
                    have f0 := SS.out.swap.free 0
                    have z1 := SS.out.swap.cell 1
                    have f1 := SS.out.swap.free 1
                    have z2 := SS.out.swap.cell 2
                    have f2 := SS.out.swap.free 2
                    have z3 := SS.out.swap.cell 3
                    have f3 := SS.out.swap.free 3
                    have z4 := SS.out.swap.cell 4
                    have f4 := SS.out.swap.free 4
                    have z5 := SS.out.swap.cell 5
                    have f5 := SS.out.swap.free 5
                    simp only [List.getElem?_toArray, List.getElem?_cons_succ, List.getElem?_cons_zero] at z0 z1 z2 z3 z4 z5
                    go_simp
                    refine hK.out _ _ (fun hv => absurd hv (by decide +kernel)) ?_
                    clear hK K
                    try simp only [Act.put, List.setIfInBounds_toArray, List.set_cons_zero, List.set_cons_succ]
                    refine wpAnyL_ready (rs := [12]) (by kernel_rfl) (by simp) ?_
                    refine AllL.cons (o := _) rfl (fun K hK => ?_) AllL.nil
                    go_simp
                    refine hK.out _ _ (fun hv => absurd hv (by decide +kernel)) ?_
                    clear hK K
                    try simp only [Act.put, List.setIfInBounds_toArray, List.set_cons_zero, List.set_cons_succ]
                    replace SS := hid (S0.out.allocAt (k := wd.heap.size) (.cells #[.int .i64 5, .int .i64 0, .string ⟨#[]⟩, .slice ju i jd, .slice ru 0 rd, .slice bu 0 bd] 35) (by simp)).swap
                    clear z0 z1 z2 z3 z4 z5 f0 f1 f2 f3 f4 f5
                    refine wpAnyL_done (by kernel_rfl) ?_ _
                    refine NoPanic.normal ?_
                    go_wp2_with fail
                    go_meet
                    exact ⟨_, ju, jd, ru, rd, bu, bd, h3, rfl, rfl, LL, HRR, SS⟩
                  · skip
                    go_simp
                    replace SS := hid (SS.out.allocAt (k := wn1.heap.size + 1) (.cells #[.int .i64 0, .int .i64 0, .string ⟨#[]⟩, .slice none 0 0, .slice none 0 0, .slice none 0 0] 35) (by simp)).unrot3
                    refine hK.out _ _ (fun hv => absurd hv (by decide +kernel)) ?_
                    clear hK K
                    try simp only [Act.put, List.setIfInBounds_toArray, List.set_cons_zero, List.set_cons_succ]
                    refine wpAnyL_ready (rs := [6]) (by kernel_rfl) (by simp) ?_
                    refine AllL.cons (o := _) rfl (fun K hK => ?_) AllL.nil
                    go_simp
                    go_at_call 23
                    refine (do_setelement HQ.out SS.out ((j : Int) + 1) v NS (in_N _ _) HT.out (in_N _ _) FK.out FV.out HNL.out HFN.out).mono ?_
                    rintro e wd ⟨vs, h3, rfl, l, s, q⟩
                    rw [HSO.out] at q ⊢
                    replace q : TIn h3 (tupT (NS.set j v)) vs := q
                    obtain ⟨ju, jd, ru, rd, bu, bd, rfl, _⟩ := id q.vals
                    replace q : TIn h3 (tupT (NS.set j v)) [.int .i64 5, .int .i64 0, .string ⟨#[]⟩, .slice ju i jd, .slice ru 0 rd, .slice bu 0 bd] := by have := q; unfold tVals at this; rw [HSL.out] at this; exact this
                    replace SS := hid s
                    have LL := hid l
                    have HRR := hid q
                    clear s l q
                    unfold tVals
                    rw [HSL.out]
                    refine hK.out _ _ (fun hv => absurd hv (by decide +kernel)) ?_
                    clear hK K
                    try simp only [Act.put, List.setIfInBounds_toArray, List.set_cons_zero, List.set_cons_succ]
                    refine wpAnyL_pure (i := 7) (d := 47) (v := ?_) rfl (by kernel_rfl) (by kernel_rfl) (by kernel_rfl) (by kernel_rfl) (by decide) (fun _ _ _ h => h) (Or.inl ⟨by rfl, ?_⟩) (fun hv => absurd hv (by decide +kernel)) ?_
                    rotate_left
                    · intro w _; go_simp; all_goals with_reducible rfl
                    try simp only [Act.put, List.setIfInBounds_toArray, List.set_cons_zero, List.set_cons_succ]
                    refine wpAnyL_pure (i := 8) (d := 55) (v := ?_) rfl (by kernel_rfl) (by kernel_rfl) (by kernel_rfl) (by kernel_rfl) (by decide) (fun _ _ _ h => h) (Or.inl ⟨by rfl, ?_⟩) (fun hv => absurd hv (by decide +kernel)) ?_
                    rotate_left
                    · intro w _; go_simp; all_goals with_reducible rfl
                    try simp only [Act.put, List.setIfInBounds_toArray, List.set_cons_zero, List.set_cons_succ]
                    refine wpAnyL_pure (i := 9) (d := 56) (v := ?_) rfl (by kernel_rfl) (by kernel_rfl) (by kernel_rfl) (by kernel_rfl) (by decide) (fun _ _ _ h => h) (Or.inl ⟨by rfl, ?_⟩) (fun hv => absurd hv (by decide +kernel)) ?_
                    rotate_left
                    · intro w _; go_simp; all_goals with_reducible rfl
                    try simp only [Act.put, List.setIfInBounds_toArray, List.set_cons_zero, List.set_cons_succ]
                    refine wpAnyL_ready (rs := [11]) (by kernel_rfl) (by simp) ?_
                    refine AllL.cons (o := _) rfl (fun K hK => ?_) AllL.nil
                    have z0 := SS.out.swap.cell 0
                    have f0 := SS.out.swap.free 0
                    have z1 := SS.out.swap.cell 1
                    have f1 := SS.out.swap.free 1
                    have z2 := SS.out.swap.cell 2
                    have f2 := SS.out.swap.free 2
                    have z3 := SS.out.swap.cell 3
                    have f3 := SS.out.swap.free 3
                    have z4 := SS.out.swap.cell 4
                    have f4 := SS.out.swap.free 4
                    have z5 := SS.out.swap.cell 5
                    have f5 := SS.out.swap.free 5
                    simp only [List.getElem?_toArray, List.getElem?_cons_succ, List.getElem?_cons_zero] at z0 z1 z2 z3 z4 z5
                    go_simp
                    refine hK.out _ _ (fun hv => absurd hv (by decide +kernel)) ?_
                    clear hK K
                    try simp only [Act.put, List.setIfInBounds_toArray, List.set_cons_zero, List.set_cons_succ]
                    refine wpAnyL_ready (rs := [12]) (by kernel_rfl) (by simp) ?_
                    refine AllL.cons (o := _) rfl (fun K hK => ?_) AllL.nil
                    go_simp
                    refine hK.out _ _ (fun hv => absurd hv (by decide +kernel)) ?_
                    clear hK K
                    try simp only [Act.put, List.setIfInBounds_toArray, List.set_cons_zero, List.set_cons_succ]
                    replace SS := hid ((((((SS.out.swap.set 0 (.int .i64 5)).set 1 (.int .i64 0)).set 2 (.string ⟨#[]⟩)).set 3 (.slice ju i jd)).set 4 (.slice ru 0 rd)).set 5 (.slice bu 0 bd)).swap
                    clear z0 z1 z2 z3 z4 z5 f0 f1 f2 f3 f4 f5
                    refine wpAnyL_done (by kernel_rfl) ?_ _
                    refine NoPanic.normal ?_
                    go_wp2_with fail
                    go_meet
                    exact ⟨_, ju, jd, ru, rd, bu, bd, h3, rfl, rfl, LL, HRR, SS⟩
                · skip
                  go_simp
                  replace SS := hid (SS.out.allocAt (k := wn1.heap.size) (.cells #[.int .i64 0, .int .i64 0, .string ⟨#[]⟩, .slice none 0 0, .slice none 0 0, .slice none 0 0] 35) (by simp)).swap
                  replace hSw := cells6 SS.out.rot3
                  refine hK.out _ _ (fun _ => hSw) ?_
                  clear hK K
                  try simp only [Act.put, List.setIfInBounds_toArray, List.set_cons_zero, List.set_cons_succ]
                  refine wpAnyL_ready (rs := [5]) (by kernel_rfl) (by simp) ?_
                  refine AllL.cons (o := _) rfl (fun K hK => ?_) AllL.nil
                  go_simp
                  replace SS := hid (SS.out.allocAt (k := wn1.heap.size + 1) (.cells #[.int .i64 1, .int .i64 (((j : Int) + 1)), .string ⟨#[]⟩, .slice none 0 0, .slice none 0 0, .slice none 0 0, .int .i64 5, .int .i64 0, .string ⟨#[]⟩, .slice A i ca, .slice none 0 0, .slice none 0 0, .int .i64 1, .int .i64 (v), .string ⟨#[]⟩, .slice none 0 0, .slice none 0 0, .slice none 0 0] 35) (by simp))
                  clear hSw
                  refine hK.out _ _ (fun hv => absurd hv (by decide +kernel)) ?_
                  clear hK K
                  try simp only [Act.put, List.setIfInBounds_toArray, List.set_cons_zero, List.set_cons_succ]
                  refine wpAnyL_ready (rs := [6]) (by kernel_rfl) (by simp) ?_
                  refine AllL.cons (o := _) rfl (fun K hK => ?_) AllL.nil
                  go_simp
                  go_at_call 23
                  refine (do_setelement HQ.out SS.out ((j : Int) + 1) v NS (in_N _ _) HT.out (in_N _ _) FK.out FV.out HNL.out HFN.out).mono ?_
                  rintro e wd ⟨vs, h3, rfl, l, s, q⟩
                  rw [HSO.out] at q ⊢
                  replace q : TIn h3 (tupT (NS.set j v)) vs := q
                  obtain ⟨ju, jd, ru, rd, bu, bd, rfl, _⟩ := id q.vals
                  replace q : TIn h3 (tupT (NS.set j v)) [.int .i64 5, .int .i64 0, .string ⟨#[]⟩, .slice ju i jd, .slice ru 0 rd, .slice bu 0 bd] := by have := q; unfold tVals at this; rw [HSL.out] at this; exact this
                  replace SS := hid s
                  have LL := hid l
                  have HRR := hid q
                  clear s l q
                  unfold tVals
                  rw [HSL.out]
                  refine hK.out _ _ (fun hv => absurd hv (by decide +kernel)) ?_
                  clear hK K
                  try simp only [Act.put, List.setIfInBounds_toArray, List.set_cons_zero, List.set_cons_succ]
                  refine wpAnyL_pure (i := 7) (d := 47) (v := ?_) rfl (by kernel_rfl) (by kernel_rfl) (by kernel_rfl) (by kernel_rfl) (by decide) (fun _ _ _ h => h) (Or.inl ⟨by rfl, ?_⟩) (fun hv => absurd hv (by decide +kernel)) ?_
                  rotate_left
                  · intro w _; go_simp; all_goals with_reducible rfl
                  try simp only [Act.put, List.setIfInBounds_toArray, List.set_cons_zero, List.set_cons_succ]
                  refine wpAnyL_pure (i := 8) (d := 55) (v := ?_) rfl (by kernel_rfl) (by kernel_rfl) (by kernel_rfl) (by kernel_rfl) (by decide) (fun _ _ _ h => h) (Or.inl ⟨by rfl, ?_⟩) (fun hv => absurd hv (by decide +kernel)) ?_
                  rotate_left
                  · intro w _; go_simp; all_goals with_reducible rfl
                  try simp only [Act.put, List.setIfInBounds_toArray, List.set_cons_zero, List.set_cons_succ]
                  refine wpAnyL_pure (i := 9) (d := 56) (v := ?_) rfl (by kernel_rfl) (by kernel_rfl) (by kernel_rfl) (by kernel_rfl) (by decide) (fun _ _ _ h => h) (Or.inl ⟨by rfl, ?_⟩) (fun hv => absurd hv (by decide +kernel)) ?_
                  rotate_left
                  · intro w _; go_simp; all_goals with_reducible rfl
                  try simp only [Act.put, List.setIfInBounds_toArray, List.set_cons_zero, List.set_cons_succ]
                  refine wpAnyL_ready (rs := [11]) (by kernel_rfl) (by simp) ?_
                  refine AllL.cons (o := _) rfl (fun K hK => ?_) AllL.nil
                  have z0 := SS.out.swap.cell 0
                  have f0 := SS.out.swap.free 0
                  have z1 := SS.out.swap.cell 1
                  have f1 := SS.out.swap.free 1
                  have z2 := SS.out.swap.cell 2
                  have f2 := SS.out.swap.free 2
                  have z3 := SS.out.swap.cell 3
                  have f3 := SS.out.swap.free 3
                  have z4 := SS.out.swap.cell 4
                  have f4 := SS.out.swap.free 4
                  have z5 := SS.out.swap.cell 5
                  have f5 := SS.out.swap.free 5
                  simp only [List.getElem?_toArray, List.getElem?_cons_succ, List.getElem?_cons_zero] at z0 z1 z2 z3 z4 z5
                  go_simp
                  refine hK.out _ _ (fun hv => absurd hv (by decide +kernel)) ?_
                  clear hK K
                  try simp only [Act.put, List.setIfInBounds_toArray, List.set_cons_zero, List.set_cons_succ]
                  refine wpAnyL_ready (rs := [12]) (by kernel_rfl) (by simp) ?_
                  refine AllL.cons (o := _) rfl (fun K hK => ?_) AllL.nil
                  go_simp
                  refine hK.out _ _ (fun hv => absurd hv (by decide +kernel)) ?_
                  clear hK K
                  try simp only [Act.put, List.setIfInBounds_toArray, List.set_cons_zero, List.set_cons_succ]
                  replace SS := hid ((((((SS.out.swap.set 0 (.int .i64 5)).set 1 (.int .i64 0)).set 2 (.string ⟨#[]⟩)).set 3 (.slice ju i jd)).set 4 (.slice ru 0 rd)).set 5 (.slice bu 0 bd)).swap
                  clear z0 z1 z2 z3 z4 z5 f0 f1 f2 f3 f4 f5
                  refine wpAnyL_done (by kernel_rfl) ?_ _
                  refine NoPanic.normal ?_
                  go_wp2_with fail
                  go_meet
                  exact ⟨_, ju, jd, ru, rd, bu, bd, h3, rfl, rfl, LL, HRR, SS⟩
              · skip
                go_simp
                replace SS := hid (SS.out.allocAt (k := wn0.heap.size) (.cells #[.int .i64 0, .int .i64 0, .string ⟨#[]⟩, .slice none 0 0, .slice none 0 0, .slice none 0 0] 35) (by simp)).swap
                replace hSw := cells6 SS.out.rot3
                refine hK.out _ _ (fun _ => hSw) ?_
                clear hK K
                try simp only [Act.put, List.setIfInBounds_toArray, List.set_cons_zero, List.set_cons_succ]
                refine wpAnyL_ready (rs := [4]) (by kernel_rfl) (by simp) ?_
                refine AllL.cons (o := _) rfl (fun K hK => ?_) AllL.nil
                go_simp
                go_at_call 21
                with_reducible refine (num8_any SS.out _).mono ?_
                rintro e wn1 ⟨rfl, s⟩
                replace SS := hid s
                clear s
                replace hSw := cells6 SS.out.rot3
                refine hK.out _ _ (fun _ => hSw) ?_
                clear hK K
                try simp only [Act.put, List.setIfInBounds_toArray, List.set_cons_zero, List.set_cons_succ]
                refine wpAnyL_ready (rs := [5]) (by kernel_rfl) (by simp) ?_
                refine AllL.cons (o := _) rfl (fun K hK => ?_) AllL.nil
                go_simp
                replace SS := hid (SS.out.allocAt (k := wn1.heap.size) (.cells #[.int .i64 1, .int .i64 (((j : Int) + 1)), .string ⟨#[]⟩, .slice none 0 0, .slice none 0 0, .slice none 0 0, .int .i64 5, .int .i64 0, .string ⟨#[]⟩, .slice A i ca, .slice none 0 0, .slice none 0 0, .int .i64 1, .int .i64 (v), .string ⟨#[]⟩, .slice none 0 0, .slice none 0 0, .slice none 0 0] 35) (by simp))
                clear hSw
                refine hK.out _ _ (fun hv => absurd hv (by decide +kernel)) ?_
                clear hK K
                try simp only [Act.put, List.setIfInBounds_toArray, List.set_cons_zero, List.set_cons_succ]
                refine wpAnyL_ready (rs := [6]) (by kernel_rfl) (by simp) ?_
                refine AllL.cons (o := _) rfl (fun K hK => ?_) AllL.nil
                go_simp
                go_at_call 23
                refine (do_setelement HQ.out SS.out ((j : Int) + 1) v NS (in_N _ _) HT.out (in_N _ _) FK.out FV.out HNL.out HFN.out).mono ?_
                rintro e wd ⟨vs, h3, rfl, l, s, q⟩
                rw [HSO.out] at q ⊢
                replace q : TIn h3 (tupT (NS.set j v)) vs := q
                obtain ⟨ju, jd, ru, rd, bu, bd, rfl, _⟩ := id q.vals
                replace q : TIn h3 (tupT (NS.set j v)) [.int .i64 5, .int .i64 0, .string ⟨#[]⟩, .slice ju i jd, .slice ru 0 rd, .slice bu 0 bd] := by have := q; unfold tVals at this; rw [HSL.out] at this; exact this
                replace SS := hid s
                have LL := hid l
                have HRR := hid q
                clear s l q
                unfold tVals
                rw [HSL.out]
                refine hK.out _ _ (fun hv => absurd hv (by decide +kernel)) ?_
                clear hK K
                try simp only [Act.put, List.setIfInBounds_toArray, List.set_cons_zero, List.set_cons_succ]
                refine wpAnyL_pure (i := 7) (d := 47) (v := ?_) rfl (by kernel_rfl) (by kernel_rfl) (by kernel_rfl) (by kernel_rfl) (by decide) (fun _ _ _ h => h) (Or.inl ⟨by rfl, ?_⟩) (fun hv => absurd hv (by decide +kernel)) ?_
                rotate_left
                · intro w _; go_simp; all_goals with_reducible rfl
                try simp only [Act.put, List.setIfInBounds_toArray, List.set_cons_zero, List.set_cons_succ]
                refine wpAnyL_pure (i := 8) (d := 55) (v := ?_) rfl (by kernel_rfl) (by kernel_rfl) (by kernel_rfl) (by kernel_rfl) (by decide) (fun _ _ _ h => h) (Or.inl ⟨by rfl, ?_⟩) (fun hv => absurd hv (by decide +kernel)) ?_
                rotate_left
                · intro w _; go_simp; all_goals with_reducible rfl
                try simp only [Act.put, List.setIfInBounds_toArray, List.set_cons_zero, List.set_cons_succ]
                refine wpAnyL_pure (i := 9) (d := 56) (v := ?_) rfl (by kernel_rfl) (by kernel_rfl) (by kernel_rfl) (by kernel_rfl) (by decide) (fun _ _ _ h => h) (Or.inl ⟨by rfl, ?_⟩) (fun hv => absurd hv (by decide +kernel)) ?_
                rotate_left
                · intro w _; go_simp; all_goals with_reducible rfl
                try simp only [Act.put, List.setIfInBounds_toArray, List.set_cons_zero, List.set_cons_succ]
                refine wpAnyL_ready (rs := [11]) (by kernel_rfl) (by simp) ?_
                refine AllL.cons (o := _) rfl (fun K hK => ?_) AllL.nil
                have z0 := SS.out.swap.cell 0
                have f0 := SS.out.swap.free 0
                have z1 := SS.out.swap.cell 1
                have f1 := SS.out.swap.free 1
                have z2 := SS.out.swap.cell 2
                have f2 := SS.out.swap.free 2
                have z3 := SS.out.swap.cell 3
                have f3 := SS.out.swap.free 3
                have z4 := SS.out.swap.cell 4
                have f4 := SS.out.swap.free 4
                have z5 := SS.out.swap.cell 5
                have f5 := SS.out.swap.free 5
                simp only [List.getElem?_toArray, List.getElem?_cons_succ, List.getElem?_cons_zero] at z0 z1 z2 z3 z4 z5
                go_simp
                refine hK.out _ _ (fun hv => absurd hv (by decide +kernel)) ?_
                clear hK K
                try simp only [Act.put, List.setIfInBounds_toArray, List.set_cons_zero, List.set_cons_succ]
                refine wpAnyL_ready (rs := [12]) (by kernel_rfl) (by simp) ?_
                refine AllL.cons (o := _) rfl (fun K hK => ?_) AllL.nil
                go_simp
                refine hK.out _ _ (fun hv => absurd hv (by decide +kernel)) ?_
                clear hK K
                try simp only [Act.put, List.setIfInBounds_toArray, List.set_cons_zero, List.set_cons_succ]
                replace SS := hid ((((((SS.out.swap.set 0 (.int .i64 5)).set 1 (.int .i64 0)).set 2 (.string ⟨#[]⟩)).set 3 (.slice ju i jd)).set 4 (.slice ru 0 rd)).set 5 (.slice bu 0 bd)).swap
                clear z0 z1 z2 z3 z4 z5 f0 f1 f2 f3 f4 f5
                refine wpAnyL_done (by kernel_rfl) ?_ _
                refine NoPanic.normal ?_
                go_wp2_with fail
                go_meet
                exact ⟨_, ju, jd, ru, rd, bu, bd, h3, rfl, rfl, LL, HRR, SS⟩
            · skip
              go_simp
              replace SS := hid (S.out.allocAt (k := ws.heap.size) (.cells #[.int .i64 0, .int .i64 0, .string ⟨#[]⟩, .slice none 0 0, .slice none 0 0, .slice none 0 0] 35) (by simp)).swap.drew
              replace hSw := cells6 SS.out.rot3
              refine hK.out _ _ (fun _ => hSw) ?_
              clear hK K
              try simp only [Act.put, List.setIfInBounds_toArray, List.set_cons_zero, List.set_cons_succ]
              refine wpAnyL_ready (rs := [1]) (by kernel_rfl) (by simp) ?_
              refine AllL.cons (o := _) rfl (fun K hK => ?_) AllL.nil
              go_simp
              go_at_call 21
              with_reducible refine (num8_any SS.out _).mono ?_
              rintro e wn0 ⟨rfl, s⟩
              replace SS := hid s
              clear s
              replace hSw := cells6 SS.out.rot3
              refine hK.out _ _ (fun _ => hSw) ?_
              clear hK K
              try simp only [Act.put, List.setIfInBounds_toArray, List.set_cons_zero, List.set_cons_succ]
              refine wpAnyL_ready (rs := [4]) (by kernel_rfl) (by simp) ?_
              refine AllL.cons (o := _) rfl (fun K hK => ?_) AllL.nil
              go_simp
              go_at_call 21
              with_reducible refine (num8_any SS.out _).mono ?_
              rintro e wn1 ⟨rfl, s⟩
              replace SS := hid s
              clear s
              replace hSw := cells6 SS.out.rot3
              refine hK.out _ _ (fun _ => hSw) ?_
              clear hK K
              try simp only [Act.put, List.setIfInBounds_toArray, List.set_cons_zero, List.set_cons_succ]
              refine wpAnyL_ready (rs := [5]) (by kernel_rfl) (by simp) ?_
              refine AllL.cons (o := _) rfl (fun K hK => ?_) AllL.nil
              go_simp
              replace SS := hid (SS.out.allocAt (k := wn1.heap.size) (.cells #[.int .i64 1, .int .i64 (((j : Int) + 1)), .string ⟨#[]⟩, .slice none 0 0, .slice none 0 0, .slice none 0 0, .int .i64 5, .int .i64 0, .string ⟨#[]⟩, .slice A i ca, .slice none 0 0, .slice none 0 0, .int .i64 1, .int .i64 (v), .string ⟨#[]⟩, .slice none 0 0, .slice none 0 0, .slice none 0 0] 35) (by simp))
              clear hSw
              refine hK.out _ _ (fun hv => absurd hv (by decide +kernel)) ?_
              clear hK K
              try simp only [Act.put, List.setIfInBounds_toArray, List.set_cons_zero, List.set_cons_succ]
              refine wpAnyL_ready (rs := [6]) (by kernel_rfl) (by simp) ?_
              refine AllL.cons (o := _) rfl (fun K hK => ?_) AllL.nil
              go_simp
              go_at_call 23
              refine (do_setelement HQ.out SS.out ((j : Int) + 1) v NS (in_N _ _) HT.out (in_N _ _) FK.out FV.out HNL.out HFN.out).mono ?_
              rintro e wd ⟨vs, h3, rfl, l, s, q⟩
              rw [HSO.out] at q ⊢
              replace q : TIn h3 (tupT (NS.set j v)) vs := q
              obtain ⟨ju, jd, ru, rd, bu, bd, rfl, _⟩ := id q.vals
              replace q : TIn h3 (tupT (NS.set j v)) [.int .i64 5, .int .i64 0, .string ⟨#[]⟩, .slice ju i jd, .slice ru 0 rd, .slice bu 0 bd] := by have := q; unfold tVals at this; rw [HSL.out] at this; exact this
              replace SS := hid s
              have LL := hid l
              have HRR := hid q
              clear s l q
              unfold tVals
              rw [HSL.out]
              refine hK.out _ _ (fun hv => absurd hv (by decide +kernel)) ?_
              clear hK K
              try simp only [Act.put, List.setIfInBounds_toArray, List.set_cons_zero, List.set_cons_succ]
              refine wpAnyL_pure (i := 7) (d := 47) (v := ?_) rfl (by kernel_rfl) (by kernel_rfl) (by kernel_rfl) (by kernel_rfl) (by decide) (fun _ _ _ h => h) (Or.inl ⟨by rfl, ?_⟩) (fun hv => absurd hv (by decide +kernel)) ?_
              rotate_left
              · intro w _; go_simp; all_goals with_reducible rfl
              try simp only [Act.put, List.setIfInBounds_toArray, List.set_cons_zero, List.set_cons_succ]
              refine wpAnyL_pure (i := 8) (d := 55) (v := ?_) rfl (by kernel_rfl) (by kernel_rfl) (by kernel_rfl) (by kernel_rfl) (by decide) (fun _ _ _ h => h) (Or.inl ⟨by rfl, ?_⟩) (fun hv => absurd hv (by decide +kernel)) ?_
              rotate_left
              · intro w _; go_simp; all_goals with_reducible rfl
              try simp only [Act.put, List.setIfInBounds_toArray, List.set_cons_zero, List.set_cons_succ]
              refine wpAnyL_pure (i := 9) (d := 56) (v := ?_) rfl (by kernel_rfl) (by kernel_rfl) (by kernel_rfl) (by kernel_rfl) (by decide) (fun _ _ _ h => h) (Or.inl ⟨by rfl, ?_⟩) (fun hv => absurd hv (by decide +kernel)) ?_
              rotate_left
              · intro w _; go_simp; all_goals with_reducible rfl
              try simp only [Act.put, List.setIfInBounds_toArray, List.set_cons_zero, List.set_cons_succ]
              refine wpAnyL_ready (rs := [11]) (by kernel_rfl) (by simp) ?_
              refine AllL.cons (o := _) rfl (fun K hK => ?_) AllL.nil
              have z0 := SS.out.swap.cell 0
              have f0 := SS.out.swap.free 0
              have z1 := SS.out.swap.cell 1
              have f1 := SS.out.swap.free 1
              have z2 := SS.out.swap.cell 2
              have f2 := SS.out.swap.free 2
              have z3 := SS.out.swap.cell 3
              have f3 := SS.out.swap.free 3
              have z4 := SS.out.swap.cell 4
              have f4 := SS.out.swap.free 4
              have z5 := SS.out.swap.cell 5
              have f5 := SS.out.swap.free 5
              simp only [List.getElem?_toArray, List.getElem?_cons_succ, List.getElem?_cons_zero] at z0 z1 z2 z3 z4 z5
              go_simp
              refine hK.out _ _ (fun hv => absurd hv (by decide +kernel)) ?_
              clear hK K
              try simp only [Act.put, List.setIfInBounds_toArray, List.set_cons_zero, List.set_cons_succ]
              refine wpAnyL_ready (rs := [12]) (by kernel_rfl) (by simp) ?_
              refine AllL.cons (o := _) rfl (fun K hK => ?_) AllL.nil
              go_simp
              refine hK.out _ _ (fun hv => absurd hv (by decide +kernel)) ?_
              clear hK K
              try simp only [Act.put, List.setIfInBounds_toArray, List.set_cons_zero, List.set_cons_succ]
              replace SS := hid ((((((SS.out.swap.set 0 (.int .i64 5)).set 1 (.int .i64 0)).set 2 (.string ⟨#[]⟩)).set 3 (.slice ju i jd)).set 4 (.slice ru 0 rd)).set 5 (.slice bu 0 bd)).swap
              clear z0 z1 z2 z3 z4 z5 f0 f1 f2 f3 f4 f5
              refine wpAnyL_done (by kernel_rfl) ?_ _
              refine NoPanic.normal ?_
              go_wp2_with fail
              go_meet
              exact ⟨_, ju, jd, ru, rd, bu, bd, h3, rfl, rfl, LL, HRR, SS⟩
          case rest =>
            clear S
            obtain ⟨yb, ju, jd, ru, rd, bu, bd, h1, rfl, rfl, LL, HU, S⟩ := hcut
            replace HQ := hid (HQ.out.mono LL.out)
            replace HL := hid (HL.out.trans LL.out)
            replace HT := hid (TIn.mono LL.out _ HT.out)
            replace HR := hid (HR.out.mono LL.out)
            clear LL
            obtain ⟨hi, HHI⟩ : ∃ hi, Hid (h1 = hi) := ⟨_, hid rfl⟩
            rw [HHI.out] at S HQ HL HT HU HR
            go_upto_region 10 with fail
            go_cut [12, 13] from 57 to 64 (fun pv qv wd => ∃ (eb : Nat) (je : Option Addr) (jf : Nat) (re : Option Addr) (rf : Nat) (be : Option Addr) (bf : Nat) (h' : Nat → Option Obj), pv = .pointer (some ⟨eb, 0, none⟩) ∧ qv = .bool true ∧ Hid (Le hi h') ∧ Hid (Sat W wd (arch h' :: blk eb (.cells #[.int .i64 1, .int .i64 x, .string ⟨#[]⟩, .slice je 0 jf, .slice re 0 rf, .slice be 0 bf] 35 (0, 0)) :: blk yb (.cells #[.int .i64 5, .int .i64 0, .string ⟨#[]⟩, .slice ju i jd, .slice ru 0 rd, .slice bu 0 bd] 35 (0, 0)) :: blk tb (.cells #[.int .i64 5, .int .i64 0, .string ⟨#[]⟩, .slice A i ca, .slice none 0 0, .slice none 0 0] 35 (0, 0)) :: [])))
            case first =>
              refine wp_region_noPanic ?_
              have hSw := cells6 S.out.drew.rot3
              refine wp_region_L (S := fun w' => World.cell? w' ⟨tb, 0, none⟩ = some (.int .i64 5) ∧ World.cell? w' ⟨tb, 1, none⟩ = some (.int .i64 0) ∧ World.cell? w' ⟨tb, 2, none⟩ = some (.string ⟨#[]⟩) ∧ World.cell? w' ⟨tb, 3, none⟩ = some (.slice A i ca) ∧ World.cell? w' ⟨tb, 4, none⟩ = some (.slice none 0 0) ∧ World.cell? w' ⟨tb, 5, none⟩ = some (.slice none 0 0)) 3 (by kernel_rfl) ?_
              refine wpAnyL_pure (i := 0) (d := 58) (v := ?_) rfl (by kernel_rfl) (by kernel_rfl) (by kernel_rfl) (by kernel_rfl) (by decide) (fun _ _ _ h => h) (Or.inl ⟨by rfl, ?_⟩) (fun _ => hSw) ?_
              rotate_left
              · intro w _; go_simp; all_goals with_reducible rfl
              try simp only [Act.put, List.setIfInBounds_toArray, List.set_cons_zero, List.set_cons_succ]
              refine wpAnyL_load (i := 2) (d := 60) (v := ?_) rfl (by kernel_rfl) (by kernel_rfl) (by kernel_rfl) (by kernel_rfl) (by decide) (by kernel_rfl) (by kernel_rfl) (fun _ _ _ h => h) (Or.inl ⟨by rfl, ?_⟩) hSw ?_
              rotate_left
              · intro w hSw; (try dsimp only at hSw); go_simp; all_goals with_reducible rfl
              try simp only [Act.put, List.setIfInBounds_toArray, List.set_cons_zero, List.set_cons_succ]
              have SS := hid S.out.drew
              refine wpAnyL_ready (rs := [1, 8]) (by kernel_rfl) (by simp) ?_
              refine AllL.cons (o := _) rfl (fun K hK => ?_) (AllL.cons (o := _) rfl (fun K hK => ?_) AllL.nil)
              · skip
                go_simp
                go_at_call 21
                with_reducible refine (num8_any SS.out _).mono ?_
                rintro e wn0 ⟨rfl, s⟩
                replace SS := hid s
                clear s
                replace hSw := cells6 SS.out.rot3
                refine hK.out _ _ (fun _ => hSw) ?_
                clear hK K
                try simp only [Act.put, List.setIfInBounds_toArray, List.set_cons_zero, List.set_cons_succ]
                refine wpAnyL_ready (rs := [3, 8]) (by kernel_rfl) (by simp) ?_
                refine AllL.cons (o := _) rfl (fun K hK => ?_) (AllL.cons (o := _) rfl (fun K hK => ?_) AllL.nil)
                · skip
                  go_simp
                  replace SS := hid (SS.out.allocAt (k := wn0.heap.size) (.cells #[.int .i64 1, .int .i64 (((j : Int) + 1)), .string ⟨#[]⟩, .slice none 0 0, .slice none 0 0, .slice none 0 0, .int .i64 5, .int .i64 0, .string ⟨#[]⟩, .slice A i ca, .slice none 0 0, .slice none 0 0] 35) (by simp))
                  clear hSw
                  refine hK.out _ _ (fun hv => absurd hv (by decide +kernel)) ?_
                  clear hK K
                  try simp only [Act.put, List.setIfInBounds_toArray, List.set_cons_zero, List.set_cons_succ]
                  refine wpAnyL_ready (rs := [4, 8]) (by kernel_rfl) (by simp) ?_
                  refine AllL.cons (o := _) rfl (fun K hK => ?_) (AllL.cons (o := _) rfl (fun K hK => ?_) AllL.nil)
                  · skip
                    go_simp
                    go_at_call 23
                    refine (do_element HQ.out SS.out ((j : Int) + 1) NS (in_N _ _) HT.out FK.out HNL.out HFN.out).mono ?_
                    intro e wd hd
                    rw [HEO.out] at hd
                    obtain ⟨je, jf, re, rf, be, bf, h3, rfl, l, s, _⟩ := hd.num
                    replace SS := hid s
                    have LL := hid l
                    clear s l hd
                    refine hK.out _ _ (fun hv => absurd hv (by decide +kernel)) ?_
                    clear hK K
                    try simp only [Act.put, List.setIfInBounds_toArray, List.set_cons_zero, List.set_cons_succ]
                    refine wpAnyL_pure (i := 5) (d := 57) (v := ?_) rfl (by kernel_rfl) (by kernel_rfl) (by kernel_rfl) (by kernel_rfl) (by decide) (fun _ _ _ h => h) (Or.inl ⟨by rfl, ?_⟩) (fun hv => absurd hv (by decide +kernel)) ?_
                    rotate_left
                    · intro w _; go_simp; all_goals with_reducible rfl
                    try simp only [Act.put, List.setIfInBounds_toArray, List.set_cons_zero, List.set_cons_succ]
                    refine wpAnyL_pure (i := 6) (d := 63) (v := ?_) rfl (by kernel_rfl) (by kernel_rfl) (by kernel_rfl) (by kernel_rfl) (by decide) (fun _ _ _ h => h) (Or.inl ⟨by rfl, ?_⟩) (fun hv => absurd hv (by decide +kernel)) ?_
                    rotate_left
                    · intro w _; go_simp; all_goals with_reducible rfl
                    try simp only [Act.put, List.setIfInBounds_toArray, List.set_cons_zero, List.set_cons_succ]
                    refine wpAnyL_pure (i := 7) (d := 64) (v := ?_) rfl (by kernel_rfl) (by kernel_rfl) (by kernel_rfl) (by kernel_rfl) (by decide) (fun _ _ _ h => h) (Or.inl ⟨by rfl, ?_⟩) (fun hv => absurd hv (by decide +kernel)) ?_
                    rotate_left
                    · intro w _; go_simp; all_goals with_reducible rfl
                    try simp only [Act.put, List.setIfInBounds_toArray, List.set_cons_zero, List.set_cons_succ]
                    refine wpAnyL_ready (rs := [8]) (by kernel_rfl) (by simp) ?_
                    refine AllL.cons (o := _) rfl (fun K hK => ?_) AllL.nil
                    have S0 := SS
                    go_simp
                    replace SS := hid (SS.out.allocAt (k := wd.heap.size) (.cells #[.int .i64 0, .int .i64 0, .string ⟨#[]⟩, .slice none 0 0, .slice none 0 0, .slice none 0 0] 35) (by simp)).swap
                    refine hK.out _ _ (fun hv => absurd hv (by decide +kernel)) ?_
                    clear hK K
                    try simp only [Act.put, List.setIfInBounds_toArray, List.set_cons_zero, List.set_cons_succ]
                    refine wpAnyL_ready (rs := [9]) (by kernel_rfl) (by simp) ?_
                    refine AllL.cons (o := _) rfl (fun K hK => ?_) AllL.nil
                    have z0 := SS.out.swap.cell 0
                    have f0 := SS.out.swap.free 0
                    have z1 := SS.out.swap.cell 1
                    have f1 := SS.out.swap.free 1
                    have z2 := SS.out.swap.cell 2
                    have f2 := SS.out.swap.free 2
                    have z3 := SS.out.swap.cell 3
                    have f3 := SS.out.swap.free 3
                    have z4 := SS.out.swap.cell 4
                    have f4 := SS.out.swap.free 4
                    have z5 := SS.out.swap.cell 5
                    have f5 := SS.out.swap.free 5
                    simp only [List.getElem?_toArray, List.getElem?_cons_succ, List.getElem?_cons_zero] at z0 z1 z2 z3 z4 z5
                    go_simp
                    refine hK.out _ _ (fun hv => absurd hv (by decide +kernel)) ?_
                    clear hK K
                    try simp only [Act.put, List.setIfInBounds_toArray, List.set_cons_zero, List.set_cons_succ]
                    refine wpAnyL_ready (rs := [10]) (by kernel_rfl) (by simp) ?_
                    refine AllL.cons (o := _) rfl (fun K hK => ?_) AllL.nil
                    go_simp
                    refine hK.out _ _ (fun hv => absurd hv (by decide +kernel)) ?_
                    clear hK K
                    try simp only [Act.put, List.setIfInBounds_toArray, List.set_cons_zero, List.set_cons_succ]
                    replace SS := hid (S0.out.allocAt (k := wd.heap.size) (.cells #[.int .i64 1, .int .i64 x, .string ⟨#[]⟩, .slice je 0 jf, .slice re 0 rf, .slice be 0 bf] 35) (by simp)).swap
                    clear z0 z1 z2 z3 z4 z5 f0 f1 f2 f3 f4 f5
                    refine wpAnyL_done (by kernel_rfl) ?_ _
                    refine NoPanic.normal ?_
                    go_wp2_with fail
                    go_meet
                    exact ⟨_, je, jf, re, rf, be, bf, h3, rfl, rfl, LL, SS⟩
                  · skip
                    go_simp
                    replace SS := hid (SS.out.allocAt (k := wn0.heap.size + 1) (.cells #[.int .i64 0, .int .i64 0, .string ⟨#[]⟩, .slice none 0 0, .slice none 0 0, .slice none 0 0] 35) (by simp)).unrot3
                    refine hK.out _ _ (fun hv => absurd hv (by decide +kernel)) ?_
                    clear hK K
                    try simp only [Act.put, List.setIfInBounds_toArray, List.set_cons_zero, List.set_cons_succ]
                    refine wpAnyL_ready (rs := [4]) (by kernel_rfl) (by simp) ?_
                    refine AllL.cons (o := _) rfl (fun K hK => ?_) AllL.nil
                    go_simp
                    go_at_call 23
                    refine (do_element HQ.out SS.out ((j : Int) + 1) NS (in_N _ _) HT.out FK.out HNL.out HFN.out).mono ?_
                    intro e wd hd
                    rw [HEO.out] at hd
                    obtain ⟨je, jf, re, rf, be, bf, h3, rfl, l, s, _⟩ := hd.num
                    replace SS := hid s
                    have LL := hid l
                    clear s l hd
                    refine hK.out _ _ (fun hv => absurd hv (by decide +kernel)) ?_
                    clear hK K
                    try simp only [Act.put, List.setIfInBounds_toArray, List.set_cons_zero, List.set_cons_succ]
                    refine wpAnyL_pure (i := 5) (d := 57) (v := ?_) rfl (by kernel_rfl) (by kernel_rfl) (by kernel_rfl) (by kernel_rfl) (by decide) (fun _ _ _ h => h) (Or.inl ⟨by rfl, ?_⟩) (fun hv => absurd hv (by decide +kernel)) ?_
                    rotate_left
                    · intro w _; go_simp; all_goals with_reducible rfl
                    try simp only [Act.put, List.setIfInBounds_toArray, List.set_cons_zero, List.set_cons_succ]
                    refine wpAnyL_pure (i := 6) (d := 63) (v := ?_) rfl (by kernel_rfl) (by kernel_rfl) (by kernel_rfl) (by kernel_rfl) (by decide) (fun _ _ _ h => h) (Or.inl ⟨by rfl, ?_⟩) (fun hv => absurd hv (by decide +kernel)) ?_
                    rotate_left
                    · intro w _; go_simp; all_goals with_reducible rfl
                    try simp only [Act.put, List.setIfInBounds_toArray, List.set_cons_zero, List.set_cons_succ]
                    refine wpAnyL_pure (i := 7) (d := 64) (v := ?_) rfl (by kernel_rfl) (by kernel_rfl) (by kernel_rfl) (by kernel_rfl) (by decide) (fun _ _ _ h => h) (Or.inl ⟨by rfl, ?_⟩) (fun hv => absurd hv (by decide +kernel)) ?_
                    rotate_left
                    · intro w _; go_simp; all_goals with_reducible rfl
                    try simp only [Act.put, List.setIfInBounds_toArray, List.set_cons_zero, List.set_cons_succ]
                    refine wpAnyL_ready (rs := [9]) (by kernel_rfl) (by simp) ?_
                    refine AllL.cons (o := _) rfl (fun K hK => ?_) AllL.nil
                    have z0 := SS.out.swap.cell 0
                    have f0 := SS.out.swap.free 0
                    have z1 := SS.out.swap.cell 1
                    have f1 := SS.out.swap.free 1
                    have z2 := SS.out.swap.cell 2
                    have f2 := SS.out.swap.free 2
                    have z3 := SS.out.swap.cell 3
                    have f3 := SS.out.swap.free 3
                    have z4 := SS.out.swap.cell 4
                    have f4 := SS.out.swap.free 4
                    have z5 := SS.out.swap.cell 5
                    have f5 := SS.out.swap.free 5
                    simp only [List.getElem?_toArray, List.getElem?_cons_succ, List.getElem?_cons_zero] at z0 z1 z2 z3 z4 z5
                    go_simp
                    refine hK.out _ _ (fun hv => absurd hv (by decide +kernel)) ?_
                    clear hK K
                    try simp only [Act.put, List.setIfInBounds_toArray, List.set_cons_zero, List.set_cons_succ]
                    refine wpAnyL_ready (rs := [10]) (by kernel_rfl) (by simp) ?_
                    refine AllL.cons (o := _) rfl (fun K hK => ?_) AllL.nil
                    go_simp
                    refine hK.out _ _ (fun hv => absurd hv (by decide +kernel)) ?_
                    clear hK K
                    try simp only [Act.put, List.setIfInBounds_toArray, List.set_cons_zero, List.set_cons_succ]
                    replace SS := hid ((((((SS.out.swap.set 0 (.int .i64 1)).set 1 (.int .i64 x)).set 2 (.string ⟨#[]⟩)).set 3 (.slice je 0 jf)).set 4 (.slice re 0 rf)).set 5 (.slice be 0 bf)).swap
                    clear z0 z1 z2 z3 z4 z5 f0 f1 f2 f3 f4 f5
                    refine wpAnyL_done (by kernel_rfl) ?_ _
                    refine NoPanic.normal ?_
                    go_wp2_with fail
                    go_meet
                    exact ⟨_, je, jf, re, rf, be, bf, h3, rfl, rfl, LL, SS⟩
                · skip
                  go_simp
                  replace SS := hid (SS.out.allocAt (k := wn0.heap.size) (.cells #[.int .i64 0, .int .i64 0, .string ⟨#[]⟩, .slice none 0 0, .slice none 0 0, .slice none 0 0] 35) (by simp)).swap
                  replace hSw := cells6 SS.out.rot4
                  refine hK.out _ _ (fun _ => hSw) ?_
                  clear hK K
                  try simp only [Act.put, List.setIfInBounds_toArray, List.set_cons_zero, List.set_cons_succ]
                  refine wpAnyL_ready (rs := [3]) (by kernel_rfl) (by simp) ?_
                  refine AllL.cons (o := _) rfl (fun K hK => ?_) AllL.nil
                  go_simp
                  replace SS := hid (SS.out.allocAt (k := wn0.heap.size + 1) (.cells #[.int .i64 1, .int .i64 (((j : Int) + 1)), .string ⟨#[]⟩, .slice none 0 0, .slice none 0 0, .slice none 0 0, .int .i64 5, .int .i64 0, .string ⟨#[]⟩, .slice A i ca, .slice none 0 0, .slice none 0 0] 35) (by simp))
                  clear hSw
                  refine hK.out _ _ (fun hv => absurd hv (by decide +kernel)) ?_
                  clear hK K
                  try simp only [Act.put, List.setIfInBounds_toArray, List.set_cons_zero, List.set_cons_succ]
                  refine wpAnyL_ready (rs := [4]) (by kernel_rfl) (by simp) ?_
                  refine AllL.cons (o := _) rfl (fun K hK => ?_) AllL.nil
                  go_simp
                  go_at_call 23
                  refine (do_element HQ.out SS.out ((j : Int) + 1) NS (in_N _ _) HT.out FK.out HNL.out HFN.out).mono ?_
                  intro e wd hd
                  rw [HEO.out] at hd
                  obtain ⟨je, jf, re, rf, be, bf, h3, rfl, l, s, _⟩ := hd.num
                  replace SS := hid s
                  have LL := hid l
                  clear s l hd
                  refine hK.out _ _ (fun hv => absurd hv (by decide +kernel)) ?_
                  clear hK K
                  try simp only [Act.put, List.setIfInBounds_toArray, List.set_cons_zero, List.set_cons_succ]
                  refine wpAnyL_pure (i := 5) (d := 57) (v := ?_) rfl (by kernel_rfl) (by kernel_rfl) (by kernel_rfl) (by kernel_rfl) (by decide) (fun _ _ _ h => h) (Or.inl ⟨by rfl, ?_⟩) (fun hv => absurd hv (by decide +kernel)) ?_
                  rotate_left
                  · intro w _; go_simp; all_goals with_reducible rfl
                  try simp only [Act.put, List.setIfInBounds_toArray, List.set_cons_zero, List.set_cons_succ]
                  refine wpAnyL_pure (i := 6) (d := 63) (v := ?_) rfl (by kernel_rfl) (by kernel_rfl) (by kernel_rfl) (by kernel_rfl) (by decide) (fun _ _ _ h => h) (Or.inl ⟨by rfl, ?_⟩) (fun hv => absurd hv (by decide +kernel)) ?_
                  rotate_left
                  · intro w _; go_simp; all_goals with_reducible rfl
                  try simp only [Act.put, List.setIfInBounds_toArray, List.set_cons_zero, List.set_cons_succ]
                  refine wpAnyL_pure (i := 7) (d := 64) (v := ?_) rfl (by kernel_rfl) (by kernel_rfl) (by kernel_rfl) (by kernel_rfl) (by decide) (fun _ _ _ h => h) (Or.inl ⟨by rfl, ?_⟩) (fun hv => absurd hv (by decide +kernel)) ?_
                  rotate_left
                  · intro w _; go_simp; all_goals with_reducible rfl
                  try simp only [Act.put, List.setIfInBounds_toArray, List.set_cons_zero, List.set_cons_succ]
                  refine wpAnyL_ready (rs := [9]) (by kernel_rfl) (by simp) ?_
                  refine AllL.cons (o := _) rfl (fun K hK => ?_) AllL.nil
                  have z0 := SS.out.swap.cell 0
                  have f0 := SS.out.swap.free 0
                  have z1 := SS.out.swap.cell 1
                  have f1 := SS.out.swap.free 1
                  have z2 := SS.out.swap.cell 2
                  have f2 := SS.out.swap.free 2
                  have z3 := SS.out.swap.cell 3
                  have f3 := SS.out.swap.free 3
                  have z4 := SS.out.swap.cell 4
                  have f4 := SS.out.swap.free 4
                  have z5 := SS.out.swap.cell 5
                  have f5 := SS.out.swap.free 5
                  simp only [List.getElem?_toArray, List.getElem?_cons_succ, List.getElem?_cons_zero] at z0 z1 z2 z3 z4 z5
                  go_simp
                  refine hK.out _ _ (fun hv => absurd hv (by decide +kernel)) ?_
                  clear hK K
                  try simp only [Act.put, List.setIfInBounds_toArray, List.set_cons_zero, List.set_cons_succ]
                  refine wpAnyL_ready (rs := [10]) (by kernel_rfl) (by simp) ?_
                  refine AllL.cons (o := _) rfl (fun K hK => ?_) AllL.nil
                  go_simp
                  refine hK.out _ _ (fun hv => absurd hv (by decide +kernel)) ?_
                  clear hK K
                  try simp only [Act.put, List.setIfInBounds_toArray, List.set_cons_zero, List.set_cons_succ]
                  replace SS := hid ((((((SS.out.swap.set 0 (.int .i64 1)).set 1 (.int .i64 x)).set 2 (.string ⟨#[]⟩)).set 3 (.slice je 0 jf)).set 4 (.slice re 0 rf)).set 5 (.slice be 0 bf)).swap
                  clear z0 z1 z2 z3 z4 z5 f0 f1 f2 f3 f4 f5
                  refine wpAnyL_done (by kernel_rfl) ?_ _
                  refine NoPanic.normal ?_
                  go_wp2_with fail
                  go_meet
                  exact ⟨_, je, jf, re, rf, be, bf, h3, rfl, rfl, LL, SS⟩
              · skip
                go_simp
                replace SS := hid (S.out.allocAt (k := wc.heap.size) (.cells #[.int .i64 0, .int .i64 0, .string ⟨#[]⟩, .slice none 0 0, .slice none 0 0, .slice none 0 0] 35) (by simp)).swap.drew
                replace hSw := cells6 SS.out.rot4
                refine hK.out _ _ (fun _ => hSw) ?_
                clear hK K
                try simp only [Act.put, List.setIfInBounds_toArray, List.set_cons_zero, List.set_cons_succ]
                refine wpAnyL_ready (rs := [1]) (by kernel_rfl) (by simp) ?_
                refine AllL.cons (o := _) rfl (fun K hK => ?_) AllL.nil
                go_simp
                go_at_call 21
                with_reducible refine (num8_any SS.out _).mono ?_
                rintro e wn0 ⟨rfl, s⟩
                replace SS := hid s
                clear s
                replace hSw := cells6 SS.out.rot4
                refine hK.out _ _ (fun _ => hSw) ?_
                clear hK K
                try simp only [Act.put, List.setIfInBounds_toArray, List.set_cons_zero, List.set_cons_succ]
                refine wpAnyL_ready (rs := [3]) (by kernel_rfl) (by simp) ?_
                refine AllL.cons (o := _) rfl (fun K hK => ?_) AllL.nil
                go_simp
                replace SS := hid (SS.out.allocAt (k := wn0.heap.size) (.cells #[.int .i64 1, .int .i64 (((j : Int) + 1)), .string ⟨#[]⟩, .slice none 0 0, .slice none 0 0, .slice none 0 0, .int .i64 5, .int .i64 0, .string ⟨#[]⟩, .slice A i ca, .slice none 0 0, .slice none 0 0] 35) (by simp))
                clear hSw
                refine hK.out _ _ (fun hv => absurd hv (by decide +kernel)) ?_
                clear hK K
                try simp only [Act.put, List.setIfInBounds_toArray, List.set_cons_zero, List.set_cons_succ]
                refine wpAnyL_ready (rs := [4]) (by kernel_rfl) (by simp) ?_
                refine AllL.cons (o := _) rfl (fun K hK => ?_) AllL.nil
                go_simp
                go_at_call 23
                refine (do_element HQ.out SS.out ((j : Int) + 1) NS (in_N _ _) HT.out FK.out HNL.out HFN.out).mono ?_
                intro e wd hd
                rw [HEO.out] at hd
                obtain ⟨je, jf, re, rf, be, bf, h3, rfl, l, s, _⟩ := hd.num
                replace SS := hid s
                have LL := hid l
                clear s l hd
                refine hK.out _ _ (fun hv => absurd hv (by decide +kernel)) ?_
                clear hK K
                try simp only [Act.put, List.setIfInBounds_toArray, List.set_cons_zero, List.set_cons_succ]
                refine wpAnyL_pure (i := 5) (d := 57) (v := ?_) rfl (by kernel_rfl) (by kernel_rfl) (by kernel_rfl) (by kernel_rfl) (by decide) (fun _ _ _ h => h) (Or.inl ⟨by rfl, ?_⟩) (fun hv => absurd hv (by decide +kernel)) ?_
                rotate_left
                · intro w _; go_simp; all_goals with_reducible rfl
                try simp only [Act.put, List.setIfInBounds_toArray, List.set_cons_zero, List.set_cons_succ]
                refine wpAnyL_pure (i := 6) (d := 63) (v := ?_) rfl (by kernel_rfl) (by kernel_rfl) (by kernel_rfl) (by kernel_rfl) (by decide) (fun _ _ _ h => h) (Or.inl ⟨by rfl, ?_⟩) (fun hv => absurd hv (by decide +kernel)) ?_
                rotate_left
                · intro w _; go_simp; all_goals with_reducible rfl
                try simp only [Act.put, List.setIfInBounds_toArray, List.set_cons_zero, List.set_cons_succ]
                refine wpAnyL_pure (i := 7) (d := 64) (v := ?_) rfl (by kernel_rfl) (by kernel_rfl) (by kernel_rfl) (by kernel_rfl) (by decide) (fun _ _ _ h => h) (Or.inl ⟨by rfl, ?_⟩) (fun hv => absurd hv (by decide +kernel)) ?_
                rotate_left
                · intro w _; go_simp; all_goals with_reducible rfl
                try simp only [Act.put, List.setIfInBounds_toArray, List.set_cons_zero, List.set_cons_succ]
                refine wpAnyL_ready (rs := [9]) (by kernel_rfl) (by simp) ?_
                refine AllL.cons (o := _) rfl (fun K hK => ?_) AllL.nil
                have z0 := SS.out.swap.cell 0
                have f0 := SS.out.swap.free 0
                have z1 := SS.out.swap.cell 1
                have f1 := SS.out.swap.free 1
                have z2 := SS.out.swap.cell 2
                have f2 := SS.out.swap.free 2
                have z3 := SS.out.swap.cell 3
                have f3 := SS.out.swap.free 3
                have z4 := SS.out.swap.cell 4
                have f4 := SS.out.swap.free 4
                have z5 := SS.out.swap.cell 5
                have f5 := SS.out.swap.free 5
                simp only [List.getElem?_toArray, List.getElem?_cons_succ, List.getElem?_cons_zero] at z0 z1 z2 z3 z4 z5
                go_simp
                refine hK.out _ _ (fun hv => absurd hv (by decide +kernel)) ?_
                clear hK K
                try simp only [Act.put, List.setIfInBounds_toArray, List.set_cons_zero, List.set_cons_succ]
                refine wpAnyL_ready (rs := [10]) (by kernel_rfl) (by simp) ?_
                refine AllL.cons (o := _) rfl (fun K hK => ?_) AllL.nil
                go_simp
                refine hK.out _ _ (fun hv => absurd hv (by decide +kernel)) ?_
                clear hK K
                try simp only [Act.put, List.setIfInBounds_toArray, List.set_cons_zero, List.set_cons_succ]
                replace SS := hid ((((((SS.out.swap.set 0 (.int .i64 1)).set 1 (.int .i64 x)).set 2 (.string ⟨#[]⟩)).set 3 (.slice je 0 jf)).set 4 (.slice re 0 rf)).set 5 (.slice be 0 bf)).swap
                clear z0 z1 z2 z3 z4 z5 f0 f1 f2 f3 f4 f5
                refine wpAnyL_done (by kernel_rfl) ?_ _
                refine NoPanic.normal ?_
                go_wp2_with fail
                go_meet
                exact ⟨_, je, jf, re, rf, be, bf, h3, rfl, rfl, LL, SS⟩
            case rest =>
              clear S
              obtain ⟨zb, je, jf, re, rf, be, bf, h2, rfl, rfl, LL, S⟩ := hcut
              replace HQ := hid (HQ.out.mono LL.out)
              replace HL := hid (HL.out.trans LL.out)
              replace HU := hid (TIn.mono LL.out _ HU.out)
              replace HR := hid (HR.out.mono LL.out)
              clear LL HT HEO HSO
              have b1 : decide ((j : Int) + 1 ≥ 1) = true := by simp; omega
              have b2 : decide ((j : Int) + 1 ≤ (i : Int)) = true := by simp; omega
              have SU : Hid (Sat W _ (arch h2 :: blk yb (.cells #[.int .i64 5, .int .i64 0, .string ⟨#[]⟩, .slice ju i jd, .slice ru 0 rd, .slice bu 0 bd] 35 (0, 0)) :: [])) := hid (S.out.sel [0, 2])
              clear S
              go_wp2_with fail
              go_loopw [14] (fun qv wr => ∃ (q : Nat) (h' : Nat → Option Obj), 1 ≤ q ∧ q ≤ i + 1 ∧ qv = .int .i64 q ∧ Hid (Le h2 h') ∧ Hid (Sat W wr (arch h' :: blk yb (.cells #[.int .i64 5, .int .i64 0, .string ⟨#[]⟩, .slice ju i jd, .slice ru 0 rd, .slice bu 0 bd] 35 (0, 0)) :: []))) (fun qv _ => i + 1 - (intOf qv).toNat)
              case atStart => exact ⟨1, h2, Nat.le_refl _, by omega, rfl, hid (Le.refl _), SU⟩
              case round =>
                obtain ⟨q, hq, hq1, hq2, rfl, HLQ, S⟩ := hrel
                clear SU b1 b2
                replace HQ := hid (HQ.out.mono HLQ.out)
                replace HL := hid (HL.out.trans HLQ.out)
                replace HU := hid (TIn.mono HLQ.out _ HU.out)
                replace HR := hid (HR.out.mono HLQ.out)
                by_cases hlt : q ≤ i
                · obtain ⟨p, hpq⟩ : ∃ p : Nat, q = p + 1 := ⟨q - 1, by omega⟩
                  have hpm : p < i := by omega
                  obtain ⟨n, hn⟩ : ∃ n, NS[p]? = some n := ⟨_, List.getElem?_eq_getElem (by rw [HM.out]; exact hpm)⟩
                  obtain ⟨y, hy⟩ : ∃ y, (NS.set j v)[p]? = some y := ⟨_, List.getElem?_eq_getElem (by rw [List.length_set, HM.out]; exact hpm)⟩
                  have hyn : y = if j = p then v else n := by rw [List.getElem?_set, hn] at hy; by_cases e : j = p; (rw [if_pos e] at hy ⊢; rw [if_pos (by rw [HM.out]; omega)] at hy; exact (Option.some.inj hy).symm); (rw [if_neg e] at hy ⊢; exact (Option.some.inj hy).symm)
                  have HEO : Hid (elemO (q : Int) ((NS.set j v).map tN) = some (tN y)) := hid (by unfold elemO; rw [List.length_map, List.length_set, HM.out, if_pos (by omega), show ((q : Int) - 1).toNat = p by omega, List.getElem?_map, hy]; rfl)
                  have FP : Hid (fits (q : Int)) := hid (by unfold fits; omega)
                  obtain ⟨g, off, rfl, e0⟩ := HR.out p _ (get_i64s hn)
                  have HE0 := hid e0
                  have HYN := hid hyn
                  have HPQ := hid hpq
                  clear hn hy e0 hyn hpq
                  go_upto_region 18 with fail
                  go_cut [15, 16] from 89 to 96 (fun pv qv wd => ∃ (eb : Nat) (je : Option Addr) (jf : Nat) (re : Option Addr) (rf : Nat) (be : Option Addr) (bf : Nat) (h' : Nat → Option Obj), pv = .pointer (some ⟨eb, 0, none⟩) ∧ qv = .bool true ∧ Hid (Le hq h') ∧ Hid (Sat W wd (arch h' :: blk eb (.cells #[.int .i64 1, .int .i64 y, .string ⟨#[]⟩, .slice je 0 jf, .slice re 0 rf, .slice be 0 bf] 35 (0, 0)) :: blk yb (.cells #[.int .i64 5, .int .i64 0, .string ⟨#[]⟩, .slice ju i jd, .slice ru 0 rd, .slice bu 0 bd] 35 (0, 0)) :: [])))
                  case first =>
                    refine wp_region_noPanic ?_
                    have hSw := cells6 S.out.drew.swap
                    refine wp_region_L (S := fun w' => World.cell? w' ⟨yb, 0, none⟩ = some (.int .i64 5) ∧ World.cell? w' ⟨yb, 1, none⟩ = some (.int .i64 0) ∧ World.cell? w' ⟨yb, 2, none⟩ = some (.string ⟨#[]⟩) ∧ World.cell? w' ⟨yb, 3, none⟩ = some (.slice ju i jd) ∧ World.cell? w' ⟨yb, 4, none⟩ = some (.slice ru 0 rd) ∧ World.cell? w' ⟨yb, 5, none⟩ = some (.slice bu 0 bd)) 3 (by kernel_rfl) ?_
                    refine wpAnyL_pure (i := 0) (d := 90) (v := ?_) rfl (by kernel_rfl) (by kernel_rfl) (by kernel_rfl) (by kernel_rfl) (by decide) (fun _ _ _ h => h) (Or.inl ⟨by rfl, ?_⟩) (fun _ => hSw) ?_
                    rotate_left
                    · intro w _; go_simp; all_goals with_reducible rfl
                    try simp only [Act.put, List.setIfInBounds_toArray, List.set_cons_zero, List.set_cons_succ]
                    refine wpAnyL_load (i := 2) (d := 92) (v := ?_) rfl (by kernel_rfl) (by kernel_rfl) (by kernel_rfl) (by kernel_rfl) (by decide) (by kernel_rfl) (by kernel_rfl) (fun _ _ _ h => h) (Or.inl ⟨by rfl, ?_⟩) hSw ?_
                    rotate_left
                    · intro w hSw; (try dsimp only at hSw); go_simp; all_goals with_reducible rfl
                    try simp only [Act.put, List.setIfInBounds_toArray, List.set_cons_zero, List.set_cons_succ]
                    have SS := hid S.out.drew
                    refine wpAnyL_ready (rs := [1, 8]) (by kernel_rfl) (by simp) ?_
                    refine AllL.cons (o := _) rfl (fun K hK => ?_) (AllL.cons (o := _) rfl (fun K hK => ?_) AllL.nil)
                    · skip
                      go_simp
                      go_at_call 21
                      with_reducible refine (num8_any SS.out _).mono ?_
                      rintro e wn0 ⟨rfl, s⟩
                      replace SS := hid s
                      clear s
                      replace hSw := cells6 SS.out.swap
                      refine hK.out _ _ (fun _ => hSw) ?_
                      clear hK K
                      try simp only [Act.put, List.setIfInBounds_toArray, List.set_cons_zero, List.set_cons_succ]
                      refine wpAnyL_ready (rs := [3, 8]) (by kernel_rfl) (by simp) ?_
                      refine AllL.cons (o := _) rfl (fun K hK => ?_) (AllL.cons (o := _) rfl (fun K hK => ?_) AllL.nil)
                      · skip
                        go_simp
                        replace SS := hid (SS.out.allocAt (k := wn0.heap.size) (.cells #[.int .i64 1, .int .i64 ((q : Int)), .string ⟨#[]⟩, .slice none 0 0, .slice none 0 0, .slice none 0 0, .int .i64 5, .int .i64 0, .string ⟨#[]⟩, .slice ju i jd, .slice ru 0 rd, .slice bu 0 bd] 35) (by simp))
                        clear hSw
                        refine hK.out _ _ (fun hv => absurd hv (by decide +kernel)) ?_
                        clear hK K
                        try simp only [Act.put, List.setIfInBounds_toArray, List.set_cons_zero, List.set_cons_succ]
                        refine wpAnyL_ready (rs := [4, 8]) (by kernel_rfl) (by simp) ?_
                        refine AllL.cons (o := _) rfl (fun K hK => ?_) (AllL.cons (o := _) rfl (fun K hK => ?_) AllL.nil)
                        · skip
                          go_simp
                          go_at_call 23
                          refine (do_element HQ.out SS.out (q : Int) (NS.set j v) (in_N _ _) HU.out FP.out HNL2.out HFN2.out).mono ?_
                          intro e wd hd
                          rw [HEO.out] at hd
                          obtain ⟨je, jf, re, rf, be, bf, h3, rfl, l, s, _⟩ := hd.num
                          replace SS := hid s
                          have LL := hid l
                          clear s l hd
                          refine hK.out _ _ (fun hv => absurd hv (by decide +kernel)) ?_
                          clear hK K
                          try simp only [Act.put, List.setIfInBounds_toArray, List.set_cons_zero, List.set_cons_succ]
                          refine wpAnyL_pure (i := 5) (d := 89) (v := ?_) rfl (by kernel_rfl) (by kernel_rfl) (by kernel_rfl) (by kernel_rfl) (by decide) (fun _ _ _ h => h) (Or.inl ⟨by rfl, ?_⟩) (fun hv => absurd hv (by decide +kernel)) ?_
                          rotate_left
                          · intro w _; go_simp; all_goals with_reducible rfl
                          try simp only [Act.put, List.setIfInBounds_toArray, List.set_cons_zero, List.set_cons_succ]
                          refine wpAnyL_pure (i := 6) (d := 95) (v := ?_) rfl (by kernel_rfl) (by kernel_rfl) (by kernel_rfl) (by kernel_rfl) (by decide) (fun _ _ _ h => h) (Or.inl ⟨by rfl, ?_⟩) (fun hv => absurd hv (by decide +kernel)) ?_
                          rotate_left
                          · intro w _; go_simp; all_goals with_reducible rfl
                          try simp only [Act.put, List.setIfInBounds_toArray, List.set_cons_zero, List.set_cons_succ]
                          refine wpAnyL_pure (i := 7) (d := 96) (v := ?_) rfl (by kernel_rfl) (by kernel_rfl) (by kernel_rfl) (by kernel_rfl) (by decide) (fun _ _ _ h => h) (Or.inl ⟨by rfl, ?_⟩) (fun hv => absurd hv (by decide +kernel)) ?_
                          rotate_left
                          · intro w _; go_simp; all_goals with_reducible rfl
                          try simp only [Act.put, List.setIfInBounds_toArray, List.set_cons_zero, List.set_cons_succ]
                          refine wpAnyL_ready (rs := [8]) (by kernel_rfl) (by simp) ?_
                          refine AllL.cons (o := _) rfl (fun K hK => ?_) AllL.nil
                          have S0 := SS
                          go_simp
                          replace SS := hid (SS.out.allocAt (k := wd.heap.size) (.cells #[.int .i64 0, .int .i64 0, .string ⟨#[]⟩, .slice none 0 0, .slice none 0 0, .slice none 0 0] 35) (by simp)).swap
                          refine hK.out _ _ (fun hv => absurd hv (by decide +kernel)) ?_
                          clear hK K
                          try simp only [Act.put, List.setIfInBounds_toArray, List.set_cons_zero, List.set_cons_succ]
                          refine wpAnyL_ready (rs := [9]) (by kernel_rfl) (by simp) ?_
                          refine AllL.cons (o := _) rfl (fun K hK => ?_) AllL.nil
                          have z0 := SS.out.swap.cell 0
                          have f0 := SS.out.swap.free 0
                          have z1 := SS.out.swap.cell 1
                          have f1 := SS.out.swap.free 1
                          have z2 := SS.out.swap.cell 2
                          have f2 := SS.out.swap.free 2
                          have z3 := SS.out.swap.cell 3
                          have f3 := SS.out.swap.free 3
                          have z4 := SS.out.swap.cell 4
                          have f4 := SS.out.swap.free 4
                          have z5 := SS.out.swap.cell 5
                          have f5 := SS.out.swap.free 5
                          simp only [List.getElem?_toArray, List.getElem?_cons_succ, List.getElem?_cons_zero] at z0 z1 z2 z3 z4 z5
                          go_simp
                          refine hK.out _ _ (fun hv => absurd hv (by decide +kernel)) ?_
                          clear hK K
                          try simp only [Act.put, List.setIfInBounds_toArray, List.set_cons_zero, List.set_cons_succ]
                          refine wpAnyL_ready (rs := [10]) (by kernel_rfl) (by simp) ?_
                          refine AllL.cons (o := _) rfl (fun K hK => ?_) AllL.nil
                          go_simp
                          refine hK.out _ _ (fun hv => absurd hv (by decide +kernel)) ?_
                          clear hK K
                          try simp only [Act.put, List.setIfInBounds_toArray, List.set_cons_zero, List.set_cons_succ]
                          replace SS := hid (S0.out.allocAt (k := wd.heap.size) (.cells #[.int .i64 1, .int .i64 y, .string ⟨#[]⟩, .slice je 0 jf, .slice re 0 rf, .slice be 0 bf] 35) (by simp)).swap
                          clear z0 z1 z2 z3 z4 z5 f0 f1 f2 f3 f4 f5
                          refine wpAnyL_done (by kernel_rfl) ?_ _
                          refine NoPanic.normal ?_
                          go_wp2_with fail
                          go_meet
                          exact ⟨_, je, jf, re, rf, be, bf, h3, rfl, rfl, LL, SS⟩
                        · skip
                          go_simp
                          replace SS := hid (SS.out.allocAt (k := wn0.heap.size + 1) (.cells #[.int .i64 0, .int .i64 0, .string ⟨#[]⟩, .slice none 0 0, .slice none 0 0, .slice none 0 0] 35) (by simp)).unrot3
                          refine hK.out _ _ (fun hv => absurd hv (by decide +kernel)) ?_
                          clear hK K
                          try simp only [Act.put, List.setIfInBounds_toArray, List.set_cons_zero, List.set_cons_succ]
                          refine wpAnyL_ready (rs := [4]) (by kernel_rfl) (by simp) ?_
                          refine AllL.cons (o := _) rfl (fun K hK => ?_) AllL.nil
                          go_simp
                          go_at_call 23
                          refine (do_element HQ.out SS.out (q : Int) (NS.set j v) (in_N _ _) HU.out FP.out HNL2.out HFN2.out).mono ?_
                          intro e wd hd
                          rw [HEO.out] at hd
                          obtain ⟨je, jf, re, rf, be, bf, h3, rfl, l, s, _⟩ := hd.num
                          replace SS := hid s
                          have LL := hid l
                          clear s l hd
                          refine hK.out _ _ (fun hv => absurd hv (by decide +kernel)) ?_
                          clear hK K
                          try simp only [Act.put, List.setIfInBounds_toArray, List.set_cons_zero, List.set_cons_succ]
                          refine wpAnyL_pure (i := 5) (d := 89) (v := ?_) rfl (by kernel_rfl) (by kernel_rfl) (by kernel_rfl) (by kernel_rfl) (by decide) (fun _ _ _ h => h) (Or.inl ⟨by rfl, ?_⟩) (fun hv => absurd hv (by decide +kernel)) ?_
                          rotate_left
                          · intro w _; go_simp; all_goals with_reducible rfl
                          try simp only [Act.put, List.setIfInBounds_toArray, List.set_cons_zero, List.set_cons_succ]
                          refine wpAnyL_pure (i := 6) (d := 95) (v := ?_) rfl (by kernel_rfl) (by kernel_rfl) (by kernel_rfl) (by kernel_rfl) (by decide) (fun _ _ _ h => h) (Or.inl ⟨by rfl, ?_⟩) (fun hv => absurd hv (by decide +kernel)) ?_
                          rotate_left
                          · intro w _; go_simp; all_goals with_reducible rfl
                          try simp only [Act.put, List.setIfInBounds_toArray, List.set_cons_zero, List.set_cons_succ]
                          refine wpAnyL_pure (i := 7) (d := 96) (v := ?_) rfl (by kernel_rfl) (by kernel_rfl) (by kernel_rfl) (by kernel_rfl) (by decide) (fun _ _ _ h => h) (Or.inl ⟨by rfl, ?_⟩) (fun hv => absurd hv (by decide +kernel)) ?_
                          rotate_left
                          · intro w _; go_simp; all_goals with_reducible rfl
                          try simp only [Act.put, List.setIfInBounds_toArray, List.set_cons_zero, List.set_cons_succ]
                          refine wpAnyL_ready (rs := [9]) (by kernel_rfl) (by simp) ?_
                          refine AllL.cons (o := _) rfl (fun K hK => ?_) AllL.nil
                          have z0 := SS.out.swap.cell 0
                          have f0 := SS.out.swap.free 0
                          have z1 := SS.out.swap.cell 1
                          have f1 := SS.out.swap.free 1
                          have z2 := SS.out.swap.cell 2
                          have f2 := SS.out.swap.free 2
                          have z3 := SS.out.swap.cell 3
                          have f3 := SS.out.swap.free 3
                          have z4 := SS.out.swap.cell 4
                          have f4 := SS.out.swap.free 4
                          have z5 := SS.out.swap.cell 5
                          have f5 := SS.out.swap.free 5
                          simp only [List.getElem?_toArray, List.getElem?_cons_succ, List.getElem?_cons_zero] at z0 z1 z2 z3 z4 z5
                          go_simp
                          refine hK.out _ _ (fun hv => absurd hv (by decide +kernel)) ?_
                          clear hK K
                          try simp only [Act.put, List.setIfInBounds_toArray, List.set_cons_zero, List.set_cons_succ]
                          refine wpAnyL_ready (rs := [10]) (by kernel_rfl) (by simp) ?_
                          refine AllL.cons (o := _) rfl (fun K hK => ?_) AllL.nil
                          go_simp
                          refine hK.out _ _ (fun hv => absurd hv (by decide +kernel)) ?_
                          clear hK K
                          try simp only [Act.put, List.setIfInBounds_toArray, List.set_cons_zero, List.set_cons_succ]
                          replace SS := hid ((((((SS.out.swap.set 0 (.int .i64 1)).set 1 (.int .i64 y)).set 2 (.string ⟨#[]⟩)).set 3 (.slice je 0 jf)).set 4 (.slice re 0 rf)).set 5 (.slice be 0 bf)).swap
                          clear z0 z1 z2 z3 z4 z5 f0 f1 f2 f3 f4 f5
                          refine wpAnyL_done (by kernel_rfl) ?_ _
                          refine NoPanic.normal ?_
                          go_wp2_with fail
                          go_meet
                          exact ⟨_, je, jf, re, rf, be, bf, h3, rfl, rfl, LL, SS⟩
                      · skip
                        go_simp
                        replace SS := hid (SS.out.allocAt (k := wn0.heap.size) (.cells #[.int .i64 0, .int .i64 0, .string ⟨#[]⟩, .slice none 0 0, .slice none 0 0, .slice none 0 0] 35) (by simp)).swap
                        replace hSw := cells6 SS.out.rot3
                        refine hK.out _ _ (fun _ => hSw) ?_
                        clear hK K
                        try simp only [Act.put, List.setIfInBounds_toArray, List.set_cons_zero, List.set_cons_succ]
                        refine wpAnyL_ready (rs := [3]) (by kernel_rfl) (by simp) ?_
                        refine AllL.cons (o := _) rfl (fun K hK => ?_) AllL.nil
                        go_simp
                        replace SS := hid (SS.out.allocAt (k := wn0.heap.size + 1) (.cells #[.int .i64 1, .int .i64 ((q : Int)), .string ⟨#[]⟩, .slice none 0 0, .slice none 0 0, .slice none 0 0, .int .i64 5, .int .i64 0, .string ⟨#[]⟩, .slice ju i jd, .slice ru 0 rd, .slice bu 0 bd] 35) (by simp))
                        clear hSw
                        refine hK.out _ _ (fun hv => absurd hv (by decide +kernel)) ?_
                        clear hK K
                        try simp only [Act.put, List.setIfInBounds_toArray, List.set_cons_zero, List.set_cons_succ]
                        refine wpAnyL_ready (rs := [4]) (by kernel_rfl) (by simp) ?_
                        refine AllL.cons (o := _) rfl (fun K hK => ?_) AllL.nil
                        go_simp
                        go_at_call 23
                        refine (do_element HQ.out SS.out (q : Int) (NS.set j v) (in_N _ _) HU.out FP.out HNL2.out HFN2.out).mono ?_
                        intro e wd hd
                        rw [HEO.out] at hd
                        obtain ⟨je, jf, re, rf, be, bf, h3, rfl, l, s, _⟩ := hd.num
                        replace SS := hid s
                        have LL := hid l
                        clear s l hd
                        refine hK.out _ _ (fun hv => absurd hv (by decide +kernel)) ?_
                        clear hK K
                        try simp only [Act.put, List.setIfInBounds_toArray, List.set_cons_zero, List.set_cons_succ]
                        refine wpAnyL_pure (i := 5) (d := 89) (v := ?_) rfl (by kernel_rfl) (by kernel_rfl) (by kernel_rfl) (by kernel_rfl) (by decide) (fun _ _ _ h => h) (Or.inl ⟨by rfl, ?_⟩) (fun hv => absurd hv (by decide +kernel)) ?_
                        rotate_left
                        · intro w _; go_simp; all_goals with_reducible rfl
                        try simp only [Act.put, List.setIfInBounds_toArray, List.set_cons_zero, List.set_cons_succ]
                        refine wpAnyL_pure (i := 6) (d := 95) (v := ?_) rfl (by kernel_rfl) (by kernel_rfl) (by kernel_rfl) (by kernel_rfl) (by decide) (fun _ _ _ h => h) (Or.inl ⟨by rfl, ?_⟩) (fun hv => absurd hv (by decide +kernel)) ?_
                        rotate_left
                        · intro w _; go_simp; all_goals with_reducible rfl
                        try simp only [Act.put, List.setIfInBounds_toArray, List.set_cons_zero, List.set_cons_succ]
                        refine wpAnyL_pure (i := 7) (d := 96) (v := ?_) rfl (by kernel_rfl) (by kernel_rfl) (by kernel_rfl) (by kernel_rfl) (by decide) (fun _ _ _ h => h) (Or.inl ⟨by rfl, ?_⟩) (fun hv => absurd hv (by decide +kernel)) ?_
                        rotate_left
                        · intro w _; go_simp; all_goals with_reducible rfl
                        try simp only [Act.put, List.setIfInBounds_toArray, List.set_cons_zero, List.set_cons_succ]
                        refine wpAnyL_ready (rs := [9]) (by kernel_rfl) (by simp) ?_
                        refine AllL.cons (o := _) rfl (fun K hK => ?_) AllL.nil
                        have z0 := SS.out.swap.cell 0
                        have f0 := SS.out.swap.free 0
                        have z1 := SS.out.swap.cell 1
                        have f1 := SS.out.swap.free 1
                        have z2 := SS.out.swap.cell 2
                        have f2 := SS.out.swap.free 2
                        have z3 := SS.out.swap.cell 3
                        have f3 := SS.out.swap.free 3
                        have z4 := SS.out.swap.cell 4
                        have f4 := SS.out.swap.free 4
                        have z5 := SS.out.swap.cell 5
                        have f5 := SS.out.swap.free 5
                        simp only [List.getElem?_toArray, List.getElem?_cons_succ, List.getElem?_cons_zero] at z0 z1 z2 z3 z4 z5
                        go_simp
                        refine hK.out _ _ (fun hv => absurd hv (by decide +kernel)) ?_
                        clear hK K
                        try simp only [Act.put, List.setIfInBounds_toArray, List.set_cons_zero, List.set_cons_succ]
                        refine wpAnyL_ready (rs := [10]) (by kernel_rfl) (by simp) ?_
                        refine AllL.cons (o := _) rfl (fun K hK => ?_) AllL.nil
                        go_simp
                        refine hK.out _ _ (fun hv => absurd hv (by decide +kernel)) ?_
                        clear hK K
                        try simp only [Act.put, List.setIfInBounds_toArray, List.set_cons_zero, List.set_cons_succ]
                        replace SS := hid ((((((SS.out.swap.set 0 (.int .i64 1)).set 1 (.int .i64 y)).set 2 (.string ⟨#[]⟩)).set 3 (.slice je 0 jf)).set 4 (.slice re 0 rf)).set 5 (.slice be 0 bf)).swap
                        clear z0 z1 z2 z3 z4 z5 f0 f1 f2 f3 f4 f5
                        refine wpAnyL_done (by kernel_rfl) ?_ _
                        refine NoPanic.normal ?_
                        go_wp2_with fail
                        go_meet
                        exact ⟨_, je, jf, re, rf, be, bf, h3, rfl, rfl, LL, SS⟩
                    · skip
                      go_simp
                      replace SS := hid (S.out.allocAt (k := wr.heap.size) (.cells #[.int .i64 0, .int .i64 0, .string ⟨#[]⟩, .slice none 0 0, .slice none 0 0, .slice none 0 0] 35) (by simp)).swap.drew
                      replace hSw := cells6 SS.out.rot3
                      refine hK.out _ _ (fun _ => hSw) ?_
                      clear hK K
                      try simp only [Act.put, List.setIfInBounds_toArray, List.set_cons_zero, List.set_cons_succ]
                      refine wpAnyL_ready (rs := [1]) (by kernel_rfl) (by simp) ?_
                      refine AllL.cons (o := _) rfl (fun K hK => ?_) AllL.nil
                      go_simp
                      go_at_call 21
                      with_reducible refine (num8_any SS.out _).mono ?_
                      rintro e wn0 ⟨rfl, s⟩
                      replace SS := hid s
                      clear s
                      replace hSw := cells6 SS.out.rot3
                      refine hK.out _ _ (fun _ => hSw) ?_
                      clear hK K
                      try simp only [Act.put, List.setIfInBounds_toArray, List.set_cons_zero, List.set_cons_succ]
                      refine wpAnyL_ready (rs := [3]) (by kernel_rfl) (by simp) ?_
                      refine AllL.cons (o := _) rfl (fun K hK => ?_) AllL.nil
                      go_simp
                      replace SS := hid (SS.out.allocAt (k := wn0.heap.size) (.cells #[.int .i64 1, .int .i64 ((q : Int)), .string ⟨#[]⟩, .slice none 0 0, .slice none 0 0, .slice none 0 0, .int .i64 5, .int .i64 0, .string ⟨#[]⟩, .slice ju i jd, .slice ru 0 rd, .slice bu 0 bd] 35) (by simp))
                      clear hSw
                      refine hK.out _ _ (fun hv => absurd hv (by decide +kernel)) ?_
                      clear hK K
                      try simp only [Act.put, List.setIfInBounds_toArray, List.set_cons_zero, List.set_cons_succ]
                      refine wpAnyL_ready (rs := [4]) (by kernel_rfl) (by simp) ?_
                      refine AllL.cons (o := _) rfl (fun K hK => ?_) AllL.nil
                      go_simp
                      go_at_call 23
                      refine (do_element HQ.out SS.out (q : Int) (NS.set j v) (in_N _ _) HU.out FP.out HNL2.out HFN2.out).mono ?_
                      intro e wd hd
                      rw [HEO.out] at hd
                      obtain ⟨je, jf, re, rf, be, bf, h3, rfl, l, s, _⟩ := hd.num
                      replace SS := hid s
                      have LL := hid l
                      clear s l hd
                      refine hK.out _ _ (fun hv => absurd hv (by decide +kernel)) ?_
                      clear hK K
                      try simp only [Act.put, List.setIfInBounds_toArray, List.set_cons_zero, List.set_cons_succ]
                      refine wpAnyL_pure (i := 5) (d := 89) (v := ?_) rfl (by kernel_rfl) (by kernel_rfl) (by kernel_rfl) (by kernel_rfl) (by decide) (fun _ _ _ h => h) (Or.inl ⟨by rfl, ?_⟩) (fun hv => absurd hv (by decide +kernel)) ?_
                      rotate_left
                      · intro w _; go_simp; all_goals with_reducible rfl
                      try simp only [Act.put, List.setIfInBounds_toArray, List.set_cons_zero, List.set_cons_succ]
                      refine wpAnyL_pure (i := 6) (d := 95) (v := ?_) rfl (by kernel_rfl) (by kernel_rfl) (by kernel_rfl) (by kernel_rfl) (by decide) (fun _ _ _ h => h) (Or.inl ⟨by rfl, ?_⟩) (fun hv => absurd hv (by decide +kernel)) ?_
                      rotate_left
                      · intro w _; go_simp; all_goals with_reducible rfl
                      try simp only [Act.put, List.setIfInBounds_toArray, List.set_cons_zero, List.set_cons_succ]
                      refine wpAnyL_pure (i := 7) (d := 96) (v := ?_) rfl (by kernel_rfl) (by kernel_rfl) (by kernel_rfl) (by kernel_rfl) (by decide) (fun _ _ _ h => h) (Or.inl ⟨by rfl, ?_⟩) (fun hv => absurd hv (by decide +kernel)) ?_
                      rotate_left
                      · intro w _; go_simp; all_goals with_reducible rfl
                      try simp only [Act.put, List.setIfInBounds_toArray, List.set_cons_zero, List.set_cons_succ]
                      refine wpAnyL_ready (rs := [9]) (by kernel_rfl) (by simp) ?_
                      refine AllL.cons (o := _) rfl (fun K hK => ?_) AllL.nil
                      have z0 := SS.out.swap.cell 0
                      have f0 := SS.out.swap.free 0
                      have z1 := SS.out.swap.cell 1
                      have f1 := SS.out.swap.free 1
                      have z2 := SS.out.swap.cell 2
                      have f2 := SS.out.swap.free 2
                      have z3 := SS.out.swap.cell 3
                      have f3 := SS.out.swap.free 3
                      have z4 := SS.out.swap.cell 4
                      have f4 := SS.out.swap.free 4
                      have z5 := SS.out.swap.cell 5
                      have f5 := SS.out.swap.free 5
                      simp only [List.getElem?_toArray, List.getElem?_cons_succ, List.getElem?_cons_zero] at z0 z1 z2 z3 z4 z5
                      go_simp
                      refine hK.out _ _ (fun hv => absurd hv (by decide +kernel)) ?_
                      clear hK K
                      try simp only [Act.put, List.setIfInBounds_toArray, List.set_cons_zero, List.set_cons_succ]
                      refine wpAnyL_ready (rs := [10]) (by kernel_rfl) (by simp) ?_
                      refine AllL.cons (o := _) rfl (fun K hK => ?_) AllL.nil
                      go_simp
                      refine hK.out _ _ (fun hv => absurd hv (by decide +kernel)) ?_
                      clear hK K
                      try simp only [Act.put, List.setIfInBounds_toArray, List.set_cons_zero, List.set_cons_succ]
                      replace SS := hid ((((((SS.out.swap.set 0 (.int .i64 1)).set 1 (.int .i64 y)).set 2 (.string ⟨#[]⟩)).set 3 (.slice je 0 jf)).set 4 (.slice re 0 rf)).set 5 (.slice be 0 bf)).swap
                      clear z0 z1 z2 z3 z4 z5 f0 f1 f2 f3 f4 f5
                      refine wpAnyL_done (by kernel_rfl) ?_ _
                      refine NoPanic.normal ?_
                      go_wp2_with fail
                      go_meet
                      exact ⟨_, je, jf, re, rf, be, bf, h3, rfl, rfl, LL, SS⟩
                  case rest =>
                    clear S
                    obtain ⟨xb, je, jf, re, rf, be, bf, h3, rfl, rfl, LL, S⟩ := hcut
                    clear HEO
                    have d0 := S.out.cellIn (cellIn_mono LL.out HE0.out)
                    have x1 := S.out.swap.cell 1
                    simp only [List.getElem?_toArray, List.getElem?_cons_succ, List.getElem?_cons_zero] at x1
                    have g1 : IntKind.i64.wrap ((q : Int) - 1) = (p : Int) := by have := HPQ.out; rw [wrapi]; unfold wrap64; omega
                    have g2 : wrap64 ((q : Int) - 1) = (p : Int) := (wrapi _).symm.trans g1
                    by_cases hjp : j = p
                    · skip
                      obtain rfl : y = v := by rw [HYN.out, if_pos hjp]
                      have q1 : ((q : Int) == ((j : Int) + 1)) = true := by have := HPQ.out; simp; omega
                      clear hjp
                      go_wp2_with fail
                      go_roundw
                      case rel => exact ⟨q + 1, h3, by omega, by omega, by go_num, hid (HLQ.out.trans LL.out), hid (S.out.sel [0, 2])⟩
                      case measure => simp [intOf]; omega
                    · skip
                      obtain rfl : y = n := by rw [HYN.out, if_neg hjp]
                      have q1 : ((q : Int) == ((j : Int) + 1)) = false := by have := HPQ.out; simp; omega
                      clear hjp
                      go_wp2_with fail
                      go_roundw
                      case rel => exact ⟨q + 1, h3, by omega, by omega, by go_num, hid (HLQ.out.trans LL.out), hid (S.out.sel [0, 2])⟩
                      case measure => simp [intOf]; omega
                · obtain rfl : q = i + 1 := by omega
                  have c0 := S.out.swap.cell 0
                  have c1 := S.out.swap.cell 1
                  have c2 := S.out.swap.cell 2
                  have c3 := S.out.swap.cell 3
                  have c4 := S.out.swap.cell 4
                  have c5 := S.out.swap.cell 5
                  simp only [List.getElem?_toArray, List.getElem?_cons_succ, List.getElem?_cons_zero] at c0 c1 c2 c3 c4 c5
                  have SB := hid (S.out.alloc (.cells #[.int .i64 5, .int .i64 0, .string ⟨#[]⟩, .slice ju i jd, .slice ru 0 rd, .slice bu 0 bd] 35))
                  have HA := hid (do_size HQ.out SB.out (NS.set j v) HU.out HNL2.out HFN2.out)
                  have hls : ((NS.set j v).length : Int) = (i : Int) := by rw [List.length_set, HM.out]
                  rw [hls] at HA
                  clear S hls
                  go_wp2_with fail
                  clear c0 c1 c2 c3 c4 c5
                  refine HA.out.mono ?_
                  rintro e w2 ⟨ia2, ic2, ra2, rc2, ba2, bc2, h3, rfl, l, s, _⟩
                  have S := hid (s.allocAt (k := w2.heap.size) (.cells #[.int .i64 1, .int .i64 ((i : Int)), .string ⟨#[]⟩, .slice ia2 0 ic2, .slice ra2 0 rc2, .slice ba2 0 bc2] 35) rfl).swap
                  replace HQ := hid (HQ.out.mono l)
                  replace HL := hid (HL.out.trans l)
                  clear s l SB HA
                  have c1 := S.out.swap.cell 1
                  simp only [List.getElem?_toArray, List.getElem?_cons_succ, List.getElem?_cons_zero] at c1
                  have HA := hid (awake8 HQ.out S.out)
                  go_wp2_with fail
                  refine HA.out.mono ?_
                  rintro e w9 ⟨h9, rfl, l9, s9⟩
                  go_wp2_with fail
                  go_ret
                  exact ⟨rfl, s9.archBelow (HL.out.trans l9)⟩
        · have HSO : Hid (setO kk (tupT NS) (tN v) = none) := hid (by unfold setO tupT; simp only [T.is, List.length_map, HM.out]; rw [if_neg hin])
          have HEO : Hid (elemO kk (NS.map tN) = none) := hid (by unfold elemO; rw [List.length_map, HM.out, if_neg hin])
          have HSL : Hid (True) := hid trivial
          clear HKK
          go_upto_region 9 with fail
          go_cut [10, 11] from 47 to 56 (fun pv qv wd => ∃ (yb : Nat) (ju : Option Addr) (jd : Nat) (ru : Option Addr) (rd : Nat) (bu : Option Addr) (bd : Nat) (h' : Nat → Option Obj), pv = .pointer (some ⟨yb, 0, none⟩) ∧ qv = .bool false ∧ Hid (Le hh h') ∧ Hid (TIn h' tZ0 [.int .i64 0, .int .i64 0, .string ⟨#[]⟩, .slice ju 0 jd, .slice ru 0 rd, .slice bu 0 bd]) ∧ Hid (Sat W wd (arch h' :: blk yb (.cells #[.int .i64 0, .int .i64 0, .string ⟨#[]⟩, .slice ju 0 jd, .slice ru 0 rd, .slice bu 0 bd] 35 (0, 0)) :: blk tb (.cells #[.int .i64 5, .int .i64 0, .string ⟨#[]⟩, .slice A i ca, .slice none 0 0, .slice none 0 0] 35 (0, 0)) :: [])))
          case first =>
            refine wp_region_noPanic ?_
            have hSw := cells6 S.out.drew.swap
            refine wp_region_L (S := fun w' => World.cell? w' ⟨tb, 0, none⟩ = some (.int .i64 5) ∧ World.cell? w' ⟨tb, 1, none⟩ = some (.int .i64 0) ∧ World.cell? w' ⟨tb, 2, none⟩ = some (.string ⟨#[]⟩) ∧ World.cell? w' ⟨tb, 3, none⟩ = some (.slice A i ca) ∧ World.cell? w' ⟨tb, 4, none⟩ = some (.slice none 0 0) ∧ World.cell? w' ⟨tb, 5, none⟩ = some (.slice none 0 0)) 5 (by kernel_rfl) ?_
            refine wpAnyL_pure (i := 0) (d := 48) (v := ?_) rfl (by kernel_rfl) (by kernel_rfl) (by kernel_rfl) (by kernel_rfl) (by decide) (fun _ _ _ h => h) (Or.inl ⟨by rfl, ?_⟩) (fun _ => hSw) ?_
            rotate_left
            · intro w _; go_simp; all_goals with_reducible rfl
            try simp only [Act.put, List.setIfInBounds_toArray, List.set_cons_zero, List.set_cons_succ]
            refine wpAnyL_pure (i := 3) (d := 51) (v := ?_) rfl (by kernel_rfl) (by kernel_rfl) (by kernel_rfl) (by kernel_rfl) (by decide) (fun _ _ _ h => h) (Or.inl ⟨by rfl, ?_⟩) (fun _ => hSw) ?_
            rotate_left
            · intro w _; go_simp; all_goals with_reducible rfl
            try simp only [Act.put, List.setIfInBounds_toArray, List.set_cons_zero, List.set_cons_succ]
            refine wpAnyL_load (i := 2) (d := 50) (v := ?_) rfl (by kernel_rfl) (by kernel_rfl) (by kernel_rfl) (by kernel_rfl) (by decide) (by kernel_rfl) (by kernel_rfl) (fun _ _ _ h => h) (Or.inl ⟨by rfl, ?_⟩) hSw ?_
            rotate_left
            · intro w hSw; (try dsimp only at hSw); go_simp; all_goals with_reducible rfl
            try simp only [Act.put, List.setIfInBounds_toArray, List.set_cons_zero, List.set_cons_succ]
            have SS := hid S.out.drew
            refine wpAnyL_ready (rs := [1, 10]) (by kernel_rfl) (by simp) ?_
            refine AllL.cons (o := _) rfl (fun K hK => ?_) (AllL.cons (o := _) rfl (fun K hK => ?_) AllL.nil)
            · skip
              go_simp
              go_at_call 21
              with_reducible refine (num8_any SS.out _).mono ?_
              rintro e wn0 ⟨rfl, s⟩
              replace SS := hid s
              clear s
              replace hSw := cells6 SS.out.swap
              refine hK.out _ _ (fun _ => hSw) ?_
              clear hK K
              try simp only [Act.put, List.setIfInBounds_toArray, List.set_cons_zero, List.set_cons_succ]
              refine wpAnyL_ready (rs := [4, 10]) (by kernel_rfl) (by simp) ?_
              refine AllL.cons (o := _) rfl (fun K hK => ?_) (AllL.cons (o := _) rfl (fun K hK => ?_) AllL.nil)
              · skip
                go_simp
                go_at_call 21
                with_reducible refine (num8_any SS.out _).mono ?_
                rintro e wn1 ⟨rfl, s⟩
                replace SS := hid s
                clear s
                replace hSw := cells6 SS.out.swap
                refine hK.out _ _ (fun _ => hSw) ?_
                clear hK K
                try simp only [Act.put, List.setIfInBounds_toArray, List.set_cons_zero, List.set_cons_succ]
                refine wpAnyL_ready (rs := [5, 10]) (by kernel_rfl) (by simp) ?_
                refine AllL.cons (o := _) rfl (fun K hK => ?_) (AllL.cons (o := _) rfl (fun K hK => ?_) AllL.nil)
                · skip
                  go_simp
                  replace SS := hid (SS.out.allocAt (k := wn1.heap.size) (.cells #[.int .i64 1, .int .i64 (kk), .string ⟨#[]⟩, .slice none 0 0, .slice none 0 0, .slice none 0 0, .int .i64 5, .int .i64 0, .string ⟨#[]⟩, .slice A i ca, .slice none 0 0, .slice none 0 0, .int .i64 1, .int .i64 (v), .string ⟨#[]⟩, .slice none 0 0, .slice none 0 0, .slice none 0 0] 35) (by simp))
                  clear hSw
                  refine hK.out _ _ (fun hv => absurd hv (by decide +kernel)) ?_
                  clear hK K
                  try simp only [Act.put, List.setIfInBounds_toArray, List.set_cons_zero, List.set_cons_succ]
                  refine wpAnyL_ready (rs := [6, 10]) (by kernel_rfl) (by simp) ?_
                  refine AllL.cons (o := _) rfl (fun K hK => ?_) (AllL.cons (o := _) rfl (fun K hK => ?_) AllL.nil)
                  · skip
                    go_simp
                    go_at_call 23
                    refine (do_setelement HQ.out SS.out kk v NS (in_N _ _) HT.out (in_N _ _) FK.out FV.out HNL.out HFN.out).mono ?_
                    intro e wd hd
                    rw [HSO.out] at hd
                    obtain ⟨ju, jd, ru, rd, bu, bd, h3, rfl, l, s, q⟩ := hd.bad
                    replace SS := hid s
                    have LL := hid l
                    have HRR := hid q
                    clear s l q hd
                    refine hK.out _ _ (fun hv => absurd hv (by decide +kernel)) ?_
                    clear hK K
                    try simp only [Act.put, List.setIfInBounds_toArray, List.set_cons_zero, List.set_cons_succ]
                    refine wpAnyL_pure (i := 7) (d := 47) (v := ?_) rfl (by kernel_rfl) (by kernel_rfl) (by kernel_rfl) (by kernel_rfl) (by decide) (fun _ _ _ h => h) (Or.inl ⟨by rfl, ?_⟩) (fun hv => absurd hv (by decide +kernel)) ?_
                    rotate_left
                    · intro w _; go_simp; all_goals with_reducible rfl
                    try simp only [Act.put, List.setIfInBounds_toArray, List.set_cons_zero, List.set_cons_succ]
                    refine wpAnyL_pure (i := 8) (d := 55) (v := ?_) rfl (by kernel_rfl) (by kernel_rfl) (by kernel_rfl) (by kernel_rfl) (by decide) (fun _ _ _ h => h) (Or.inl ⟨by rfl, ?_⟩) (fun hv => absurd hv (by decide +kernel)) ?_
                    rotate_left
                    · intro w _; go_simp; all_goals with_reducible rfl
                    try simp only [Act.put, List.setIfInBounds_toArray, List.set_cons_zero, List.set_cons_succ]
                    refine wpAnyL_pure (i := 9) (d := 56) (v := ?_) rfl (by kernel_rfl) (by kernel_rfl) (by kernel_rfl) (by kernel_rfl) (by decide) (fun _ _ _ h => h) (Or.inl ⟨by rfl, ?_⟩) (fun hv => absurd hv (by decide +kernel)) ?_
                    rotate_left
                    · intro w _; go_simp; all_goals with_reducible rfl
                    try simp only [Act.put, List.setIfInBounds_toArray, List.set_cons_zero, List.set_cons_succ]
                    refine wpAnyL_ready (rs := [10]) (by kernel_rfl) (by simp) ?_
                    refine AllL.cons (o := _) rfl (fun K hK => ?_) AllL.nil
                    have S0 := SS
                    go_simp
                    replace SS := hid (SS.out.allocAt (k := wd.heap.size) (.cells #[.int .i64 0, .int .i64 0, .string ⟨#[]⟩, .slice none 0 0, .slice none 0 0, .slice none 0 0] 35) (by simp)).swap
                    refine hK.out _ _ (fun hv => absurd hv (by decide +kernel)) ?_
                    clear hK K
                    try simp only [Act.put, List.setIfInBounds_toArray, List.set_cons_zero, List.set_cons_succ]
                    refine wpAnyL_ready (rs := [11]) (by kernel_rfl) (by simp) ?_
                    refine AllL.cons (o := _) rfl (fun K hK => ?_) AllL.nil
                    have z0 := SS.out.swap.cell 0
                    have f0 := SS.out.swap.free 0
                    have z1 := SS.out.swap.cell 1
                    have f1 := SS.out.swap.free 1
                    have z2 := SS.out.swap.cell 2
                    have f2 := SS.out.swap.free 2
                    have z3 := SS.out.swap.cell 3
                    have f3 := SS.out.swap.free 3
                    have z4 := SS.out.swap.cell 4
                    have f4 := SS.out.swap.free 4
                    have z5 := SS.out.swap.cell 5
                    have f5 := SS.out.swap.free 5
                    simp only [List.getElem?_toArray, List.getElem?_cons_succ, List.getElem?_cons_zero] at z0 z1 z2 z3 z4 z5
                    go_simp
                    refine hK.out _ _ (fun hv => absurd hv (by decide +kernel)) ?_
                    clear hK K
                    try simp only [Act.put, List.setIfInBounds_toArray, List.set_cons_zero, List.set_cons_succ]
                    refine wpAnyL_ready (rs := [12]) (by kernel_rfl) (by simp) ?_
                    refine AllL.cons (o := _) rfl (fun K hK => ?_) AllL.nil
                    go_simp
                    refine hK.out _ _ (fun hv => absurd hv (by decide +kernel)) ?_
                    clear hK K
                    try simp only [Act.put, List.setIfInBounds_toArray, List.set_cons_zero, List.set_cons_succ]
                    replace SS := hid (S0.out.allocAt (k := wd.heap.size) (.cells #[.int .i64 0, .int .i64 0, .string ⟨#[]⟩, .slice ju 0 jd, .slice ru 0 rd, .slice bu 0 bd] 35) (by simp)).swap
                    clear z0 z1 z2 z3 z4 z5 f0 f1 f2 f3 f4 f5
                    refine wpAnyL_done (by kernel_rfl) ?_ _
                    refine NoPanic.normal ?_
                    go_wp2_with fail
                    go_meet
                    exact ⟨_, ju, jd, ru, rd, bu, bd, h3, rfl, rfl, LL, HRR, SS⟩
                  · skip
                    go_simp
                    replace SS := hid (SS.out.allocAt (k := wn1.heap.size + 1) (.cells #[.int .i64 0, .int .i64 0, .string ⟨#[]⟩, .slice none 0 0, .slice none 0 0, .slice none 0 0] 35) (by simp)).unrot3
                    refine hK.out _ _ (fun hv => absurd hv (by decide +kernel)) ?_
                    clear hK K
                    try simp only [Act.put, List.setIfInBounds_toArray, List.set_cons_zero, List.set_cons_succ]
                    refine wpAnyL_ready (rs := [6]) (by kernel_rfl) (by simp) ?_
                    refine AllL.cons (o := _) rfl (fun K hK => ?_) AllL.nil
                    go_simp
                    go_at_call 23
                    refine (do_setelement HQ.out SS.out kk v NS (in_N _ _) HT.out (in_N _ _) FK.out FV.out HNL.out HFN.out).mono ?_
                    intro e wd hd
                    rw [HSO.out] at hd
                    obtain ⟨ju, jd, ru, rd, bu, bd, h3, rfl, l, s, q⟩ := hd.bad
                    replace SS := hid s
                    have LL := hid l
                    have HRR := hid q
                    clear s l q hd
                    refine hK.out _ _ (fun hv => absurd hv (by decide +kernel)) ?_
                    clear hK K
                    try simp only [Act.put, List.setIfInBounds_toArray, List.set_cons_zero, List.set_cons_succ]
                    refine wpAnyL_pure (i := 7) (d := 47) (v := ?_) rfl (by kernel_rfl) (by kernel_rfl) (by kernel_rfl) (by kernel_rfl) (by decide) (fun _ _ _ h => h) (Or.inl ⟨by rfl, ?_⟩) (fun hv => absurd hv (by decide +kernel)) ?_
                    rotate_left
                    · intro w _; go_simp; all_goals with_reducible rfl
                    try simp only [Act.put, List.setIfInBounds_toArray, List.set_cons_zero, List.set_cons_succ]
                    refine wpAnyL_pure (i := 8) (d := 55) (v := ?_) rfl (by kernel_rfl) (by kernel_rfl) (by kernel_rfl) (by kernel_rfl) (by decide) (fun _ _ _ h => h) (Or.inl ⟨by rfl, ?_⟩) (fun hv => absurd hv (by decide +kernel)) ?_
                    rotate_left
                    · intro w _; go_simp; all_goals with_reducible rfl
                    try simp only [Act.put, List.setIfInBounds_toArray, List.set_cons_zero, List.set_cons_succ]
                    refine wpAnyL_pure (i := 9) (d := 56) (v := ?_) rfl (by kernel_rfl) (by kernel_rfl) (by kernel_rfl) (by kernel_rfl) (by decide) (fun _ _ _ h => h) (Or.inl ⟨by rfl, ?_⟩) (fun hv => absurd hv (by decide +kernel)) ?_
                    rotate_left
                    · intro w _; go_simp; all_goals with_reducible rfl
                    try simp only [Act.put, List.setIfInBounds_toArray, List.set_cons_zero, List.set_cons_succ]
                    refine wpAnyL_ready (rs := [11]) (by kernel_rfl) (by simp) ?_
                    refine AllL.cons (o := _) rfl (fun K hK => ?_) AllL.nil
                    have z0 := SS.out.swap.cell 0
                    have f0 := SS.out.swap.free 0
                    have z1 := SS.out.swap.cell 1
                    have f1 := SS.out.swap.free 1
                    have z2 := SS.out.swap.cell 2
                    have f2 := SS.out.swap.free 2
                    have z3 := SS.out.swap.cell 3
                    have f3 := SS.out.swap.free 3
                    have z4 := SS.out.swap.cell 4
                    have f4 := SS.out.swap.free 4
                    have z5 := SS.out.swap.cell 5
                    have f5 := SS.out.swap.free 5
                    simp only [List.getElem?_toArray, List.getElem?_cons_succ, List.getElem?_cons_zero] at z0 z1 z2 z3 z4 z5
                    go_simp
                    refine hK.out _ _ (fun hv => absurd hv (by decide +kernel)) ?_
                    clear hK K
                    try simp only [Act.put, List.setIfInBounds_toArray, List.set_cons_zero, List.set_cons_succ]
                    refine wpAnyL_ready (rs := [12]) (by kernel_rfl) (by simp) ?_
                    refine AllL.cons (o := _) rfl (fun K hK => ?_) AllL.nil
                    go_simp
                    refine hK.out _ _ (fun hv => absurd hv (by decide +kernel)) ?_
                    clear hK K
                    try simp only [Act.put, List.setIfInBounds_toArray, List.set_cons_zero, List.set_cons_succ]
                    replace SS := hid ((((((SS.out.swap.set 0 (.int .i64 0)).set 1 (.int .i64 0)).set 2 (.string ⟨#[]⟩)).set 3 (.slice ju 0 jd)).set 4 (.slice ru 0 rd)).set 5 (.slice bu 0 bd)).swap
                    clear z0 z1 z2 z3 z4 z5 f0 f1 f2 f3 f4 f5
                    refine wpAnyL_done (by kernel_rfl) ?_ _
                    refine NoPanic.normal ?_
                    go_wp2_with fail
                    go_meet
                    exact ⟨_, ju, jd, ru, rd, bu, bd, h3, rfl, rfl, LL, HRR, SS⟩
                · skip
                  go_simp
                  replace SS := hid (SS.out.allocAt (k := wn1.heap.size) (.cells #[.int .i64 0, .int .i64 0, .string ⟨#[]⟩, .slice none 0 0, .slice none 0 0, .slice none 0 0] 35) (by simp)).swap
                  replace hSw := cells6 SS.out.rot3
                  refine hK.out _ _ (fun _ => hSw) ?_
                  clear hK K
                  try simp only [Act.put, List.setIfInBounds_toArray, List.set_cons_zero, List.set_cons_succ]
                  refine wpAnyL_ready (rs := [5]) (by kernel_rfl) (by simp) ?_
                  refine AllL.cons (o := _) rfl (fun K hK => ?_) AllL.nil
                  go_simp
                  replace SS := hid (SS.out.allocAt (k := wn1.heap.size + 1) (.cells #[.int .i64 1, .int .i64 (kk), .string ⟨#[]⟩, .slice none 0 0, .slice none 0 0, .slice none 0 0, .int .i64 5, .int .i64 0, .string ⟨#[]⟩, .slice A i ca, .slice none 0 0, .slice none 0 0, .int .i64 1, .int .i64 (v), .string ⟨#[]⟩, .slice none 0 0, .slice none 0 0, .slice none 0 0] 35) (by simp))
                  clear hSw
                  refine hK.out _ _ (fun hv => absurd hv (by decide +kernel)) ?_
                  clear hK K
                  try simp only [Act.put, List.setIfInBounds_toArray, List.set_cons_zero, List.set_cons_succ]
                  refine wpAnyL_ready (rs := [6]) (by kernel_rfl) (by simp) ?_
                  refine AllL.cons (o := _) rfl (fun K hK => ?_) AllL.nil
                  go_simp
                  go_at_call 23
                  refine (do_setelement HQ.out SS.out kk v NS (in_N _ _) HT.out (in_N _ _) FK.out FV.out HNL.out HFN.out).mono ?_
                  intro e wd hd
                  rw [HSO.out] at hd
                  obtain ⟨ju, jd, ru, rd, bu, bd, h3, rfl, l, s, q⟩ := hd.bad
                  replace SS := hid s
                  have LL := hid l
                  have HRR := hid q
                  clear s l q hd
                  refine hK.out _ _ (fun hv => absurd hv (by decide +kernel)) ?_
                  clear hK K
                  try simp only [Act.put, List.setIfInBounds_toArray, List.set_cons_zero, List.set_cons_succ]
                  refine wpAnyL_pure (i := 7) (d := 47) (v := ?_) rfl (by kernel_rfl) (by kernel_rfl) (by kernel_rfl) (by kernel_rfl) (by decide) (fun _ _ _ h => h) (Or.inl ⟨by rfl, ?_⟩) (fun hv => absurd hv (by decide +kernel)) ?_
                  rotate_left
                  · intro w _; go_simp; all_goals with_reducible rfl
                  try simp only [Act.put, List.setIfInBounds_toArray, List.set_cons_zero, List.set_cons_succ]
                  refine wpAnyL_pure (i := 8) (d := 55) (v := ?_) rfl (by kernel_rfl) (by kernel_rfl) (by kernel_rfl) (by kernel_rfl) (by decide) (fun _ _ _ h => h) (Or.inl ⟨by rfl, ?_⟩) (fun hv => absurd hv (by decide +kernel)) ?_
                  rotate_left
                  · intro w _; go_simp; all_goals with_reducible rfl
                  try simp only [Act.put, List.setIfInBounds_toArray, List.set_cons_zero, List.set_cons_succ]
                  refine wpAnyL_pure (i := 9) (d := 56) (v := ?_) rfl (by kernel_rfl) (by kernel_rfl) (by kernel_rfl) (by kernel_rfl) (by decide) (fun _ _ _ h => h) (Or.inl ⟨by rfl, ?_⟩) (fun hv => absurd hv (by decide +kernel)) ?_
                  rotate_left
                  · intro w _; go_simp; all_goals with_reducible rfl
                  try simp only [Act.put, List.setIfInBounds_toArray, List.set_cons_zero, List.set_cons_succ]
                  refine wpAnyL_ready (rs := [11]) (by kernel_rfl) (by simp) ?_
                  refine AllL.cons (o := _) rfl (fun K hK => ?_) AllL.nil
                  have z0 := SS.out.swap.cell 0
                  have f0 := SS.out.swap.free 0
                  have z1 := SS.out.swap.cell 1
                  have f1 := SS.out.swap.free 1
                  have z2 := SS.out.swap.cell 2
                  have f2 := SS.out.swap.free 2
                  have z3 := SS.out.swap.cell 3
                  have f3 := SS.out.swap.free 3
                  have z4 := SS.out.swap.cell 4
                  have f4 := SS.out.swap.free 4
                  have z5 := SS.out.swap.cell 5
                  have f5 := SS.out.swap.free 5
                  simp only [List.getElem?_toArray, List.getElem?_cons_succ, List.getElem?_cons_zero] at z0 z1 z2 z3 z4 z5
                  go_simp
                  refine hK.out _ _ (fun hv => absurd hv (by decide +kernel)) ?_
                  clear hK K
                  try simp only [Act.put, List.setIfInBounds_toArray, List.set_cons_zero, List.set_cons_succ]
                  refine wpAnyL_ready (rs := [12]) (by kernel_rfl) (by simp) ?_
                  refine AllL.cons (o := _) rfl (fun K hK => ?_) AllL.nil
                  go_simp
                  refine hK.out _ _ (fun hv => absurd hv (by decide +kernel)) ?_
                  clear hK K
                  try simp only [Act.put, List.setIfInBounds_toArray, List.set_cons_zero, List.set_cons_succ]
                  replace SS := hid ((((((SS.out.swap.set 0 (.int .i64 0)).set 1 (.int .i64 0)).set 2 (.string ⟨#[]⟩)).set 3 (.slice ju 0 jd)).set 4 (.slice ru 0 rd)).set 5 (.slice bu 0 bd)).swap
                  clear z0 z1 z2 z3 z4 z5 f0 f1 f2 f3 f4 f5
                  refine wpAnyL_done (by kernel_rfl) ?_ _
                  refine NoPanic.normal ?_
                  go_wp2_with fail
                  go_meet
                  exact ⟨_, ju, jd, ru, rd, bu, bd, h3, rfl, rfl, LL, HRR, SS⟩
              · skip
                go_simp
                replace SS := hid (SS.out.allocAt (k := wn0.heap.size) (.cells #[.int .i64 0, .int .i64 0, .string ⟨#[]⟩, .slice none 0 0, .slice none 0 0, .slice none 0 0] 35) (by simp)).swap
                replace hSw := cells6 SS.out.rot3
                refine hK.out _ _ (fun _ => hSw) ?_
                clear hK K
                try simp only [Act.put, List.setIfInBounds_toArray, List.set_cons_zero, List.set_cons_succ]
                refine wpAnyL_ready (rs := [4]) (by kernel_rfl) (by simp) ?_
                refine AllL.cons (o := _) rfl (fun K hK => ?_) AllL.nil
                go_simp
                go_at_call 21
                with_reducible refine (num8_any SS.out _).mono ?_
                rintro e wn1 ⟨rfl, s⟩
                replace SS := hid s
                clear s
                replace hSw := cells6 SS.out.rot3
                refine hK.out _ _ (fun _ => hSw) ?_
                clear hK K
                try simp only [Act.put, List.setIfInBounds_toArray, List.set_cons_zero, List.set_cons_succ]
                refine wpAnyL_ready (rs := [5]) (by kernel_rfl) (by simp) ?_
                refine AllL.cons (o := _) rfl (fun K hK => ?_) AllL.nil
                go_simp
                replace SS := hid (SS.out.allocAt (k := wn1.heap.size) (.cells #[.int .i64 1, .int .i64 (kk), .string ⟨#[]⟩, .slice none 0 0, .slice none 0 0, .slice none 0 0, .int .i64 5, .int .i64 0, .string ⟨#[]⟩, .slice A i ca, .slice none 0 0, .slice none 0 0, .int .i64 1, .int .i64 (v), .string ⟨#[]⟩, .slice none 0 0, .slice none 0 0, .slice none 0 0] 35) (by simp))
                clear hSw
                refine hK.out _ _ (fun hv => absurd hv (by decide +kernel)) ?_
                clear hK K
                try simp only [Act.put, List.setIfInBounds_toArray, List.set_cons_zero, List.set_cons_succ]
                refine wpAnyL_ready (rs := [6]) (by kernel_rfl) (by simp) ?_
                refine AllL.cons (o := _) rfl (fun K hK => ?_) AllL.nil
                go_simp
                go_at_call 23
                refine (do_setelement HQ.out SS.out kk v NS (in_N _ _) HT.out (in_N _ _) FK.out FV.out HNL.out HFN.out).mono ?_
                intro e wd hd
                rw [HSO.out] at hd
                obtain ⟨ju, jd, ru, rd, bu, bd, h3, rfl, l, s, q⟩ := hd.bad
                replace SS := hid s
                have LL := hid l
                have HRR := hid q
                clear s l q hd
                refine hK.out _ _ (fun hv => absurd hv (by decide +kernel)) ?_
                clear hK K
                try simp only [Act.put, List.setIfInBounds_toArray, List.set_cons_zero, List.set_cons_succ]
                refine wpAnyL_pure (i := 7) (d := 47) (v := ?_) rfl (by kernel_rfl) (by kernel_rfl) (by kernel_rfl) (by kernel_rfl) (by decide) (fun _ _ _ h => h) (Or.inl ⟨by rfl, ?_⟩) (fun hv => absurd hv (by decide +kernel)) ?_
                rotate_left
                · intro w _; go_simp; all_goals with_reducible rfl
                try simp only [Act.put, List.setIfInBounds_toArray, List.set_cons_zero, List.set_cons_succ]
                refine wpAnyL_pure (i := 8) (d := 55) (v := ?_) rfl (by kernel_rfl) (by kernel_rfl) (by kernel_rfl) (by kernel_rfl) (by decide) (fun _ _ _ h => h) (Or.inl ⟨by rfl, ?_⟩) (fun hv => absurd hv (by decide +kernel)) ?_
                rotate_left
                · intro w _; go_simp; all_goals with_reducible rfl
                try simp only [Act.put, List.setIfInBounds_toArray, List.set_cons_zero, List.set_cons_succ]
                refine wpAnyL_pure (i := 9) (d := 56) (v := ?_) rfl (by kernel_rfl) (by kernel_rfl) (by kernel_rfl) (by kernel_rfl) (by decide) (fun _ _ _ h => h) (Or.inl ⟨by rfl, ?_⟩) (fun hv => absurd hv (by decide +kernel)) ?_
                rotate_left
                · intro w _; go_simp; all_goals with_reducible rfl
                try simp only [Act.put, List.setIfInBounds_toArray, List.set_cons_zero, List.set_cons_succ]
                refine wpAnyL_ready (rs := [11]) (by kernel_rfl) (by simp) ?_
                refine AllL.cons (o := _) rfl (fun K hK => ?_) AllL.nil
                have z0 := SS.out.swap.cell 0
                have f0 := SS.out.swap.free 0
                have z1 := SS.out.swap.cell 1
                have f1 := SS.out.swap.free 1
                have z2 := SS.out.swap.cell 2
                have f2 := SS.out.swap.free 2
                have z3 := SS.out.swap.cell 3
                have f3 := SS.out.swap.free 3
                have z4 := SS.out.swap.cell 4
                have f4 := SS.out.swap.free 4
                have z5 := SS.out.swap.cell 5
                have f5 := SS.out.swap.free 5
                simp only [List.getElem?_toArray, List.getElem?_cons_succ, List.getElem?_cons_zero] at z0 z1 z2 z3 z4 z5
                go_simp
                refine hK.out _ _ (fun hv => absurd hv (by decide +kernel)) ?_
                clear hK K
                try simp only [Act.put, List.setIfInBounds_toArray, List.set_cons_zero, List.set_cons_succ]
                refine wpAnyL_ready (rs := [12]) (by kernel_rfl) (by simp) ?_
                refine AllL.cons (o := _) rfl (fun K hK => ?_) AllL.nil
                go_simp
                refine hK.out _ _ (fun hv => absurd hv (by decide +kernel)) ?_
                clear hK K
                try simp only [Act.put, List.setIfInBounds_toArray, List.set_cons_zero, List.set_cons_succ]
                replace SS := hid ((((((SS.out.swap.set 0 (.int .i64 0)).set 1 (.int .i64 0)).set 2 (.string ⟨#[]⟩)).set 3 (.slice ju 0 jd)).set 4 (.slice ru 0 rd)).set 5 (.slice bu 0 bd)).swap
                clear z0 z1 z2 z3 z4 z5 f0 f1 f2 f3 f4 f5
                refine wpAnyL_done (by kernel_rfl) ?_ _
                refine NoPanic.normal ?_
                go_wp2_with fail
                go_meet
                exact ⟨_, ju, jd, ru, rd, bu, bd, h3, rfl, rfl, LL, HRR, SS⟩
            · skip
              go_simp
              replace SS := hid (S.out.allocAt (k := ws.heap.size) (.cells #[.int .i64 0, .int .i64 0, .string ⟨#[]⟩, .slice none 0 0, .slice none 0 0, .slice none 0 0] 35) (by simp)).swap.drew
              replace hSw := cells6 SS.out.rot3
              refine hK.out _ _ (fun _ => hSw) ?_
              clear hK K
              try simp only [Act.put, List.setIfInBounds_toArray, List.set_cons_zero, List.set_cons_succ]
              refine wpAnyL_ready (rs := [1]) (by kernel_rfl) (by simp) ?_
              refine AllL.cons (o := _) rfl (fun K hK => ?_) AllL.nil
              go_simp
              go_at_call 21
              with_reducible refine (num8_any SS.out _).mono ?_
              rintro e wn0 ⟨rfl, s⟩
              replace SS := hid s
              clear s
              replace hSw := cells6 SS.out.rot3
              refine hK.out _ _ (fun _ => hSw) ?_
              clear hK K
              try simp only [Act.put, List.setIfInBounds_toArray, List.set_cons_zero, List.set_cons_succ]
              refine wpAnyL_ready (rs := [4]) (by kernel_rfl) (by simp) ?_
              refine AllL.cons (o := _) rfl (fun K hK => ?_) AllL.nil
              go_simp
              go_at_call 21
              with_reducible refine (num8_any SS.out _).mono ?_
              rintro e wn1 ⟨rfl, s⟩
              replace SS := hid s
              clear s
              replace hSw := cells6 SS.out.rot3
              refine hK.out _ _ (fun _ => hSw) ?_
              clear hK K
              try simp only [Act.put, List.setIfInBounds_toArray, List.set_cons_zero, List.set_cons_succ]
              refine wpAnyL_ready (rs := [5]) (by kernel_rfl) (by simp) ?_
              refine AllL.cons (o := _) rfl (fun K hK => ?_) AllL.nil
              go_simp
              replace SS := hid (SS.out.allocAt (k := wn1.heap.size) (.cells #[.int .i64 1, .int .i64 (kk), .string ⟨#[]⟩, .slice none 0 0, .slice none 0 0, .slice none 0 0, .int .i64 5, .int .i64 0, .string ⟨#[]⟩, .slice A i ca, .slice none 0 0, .slice none 0 0, .int .i64 1, .int .i64 (v), .string ⟨#[]⟩, .slice none 0 0, .slice none 0 0, .slice none 0 0] 35) (by simp))
              clear hSw
              refine hK.out _ _ (fun hv => absurd hv (by decide +kernel)) ?_
              clear hK K
              try simp only [Act.put, List.setIfInBounds_toArray, List.set_cons_zero, List.set_cons_succ]
              refine wpAnyL_ready (rs := [6]) (by kernel_rfl) (by simp) ?_
              refine AllL.cons (o := _) rfl (fun K hK => ?_) AllL.nil
              go_simp
              go_at_call 23
              refine (do_setelement HQ.out SS.out kk v NS (in_N _ _) HT.out (in_N _ _) FK.out FV.out HNL.out HFN.out).mono ?_
              intro e wd hd
              rw [HSO.out] at hd
              obtain ⟨ju, jd, ru, rd, bu, bd, h3, rfl, l, s, q⟩ := hd.bad
              replace SS := hid s
              have LL := hid l
              have HRR := hid q
              clear s l q hd
              refine hK.out _ _ (fun hv => absurd hv (by decide +kernel)) ?_
              clear hK K
              try simp only [Act.put, List.setIfInBounds_toArray, List.set_cons_zero, List.set_cons_succ]
              refine wpAnyL_pure (i := 7) (d := 47) (v := ?_) rfl (by kernel_rfl) (by kernel_rfl) (by kernel_rfl) (by kernel_rfl) (by decide) (fun _ _ _ h => h) (Or.inl ⟨by rfl, ?_⟩) (fun hv => absurd hv (by decide +kernel)) ?_
              rotate_left
              · intro w _; go_simp; all_goals with_reducible rfl
              try simp only [Act.put, List.setIfInBounds_toArray, List.set_cons_zero, List.set_cons_succ]
              refine wpAnyL_pure (i := 8) (d := 55) (v := ?_) rfl (by kernel_rfl) (by kernel_rfl) (by kernel_rfl) (by kernel_rfl) (by decide) (fun _ _ _ h => h) (Or.inl ⟨by rfl, ?_⟩) (fun hv => absurd hv (by decide +kernel)) ?_
              rotate_left
              · intro w _; go_simp; all_goals with_reducible rfl
              try simp only [Act.put, List.setIfInBounds_toArray, List.set_cons_zero, List.set_cons_succ]
              refine wpAnyL_pure (i := 9) (d := 56) (v := ?_) rfl (by kernel_rfl) (by kernel_rfl) (by kernel_rfl) (by kernel_rfl) (by decide) (fun _ _ _ h => h) (Or.inl ⟨by rfl, ?_⟩) (fun hv => absurd hv (by decide +kernel)) ?_
              rotate_left
              · intro w _; go_simp; all_goals with_reducible rfl
              try simp only [Act.put, List.setIfInBounds_toArray, List.set_cons_zero, List.set_cons_succ]
              refine wpAnyL_ready (rs := [11]) (by kernel_rfl) (by simp) ?_
              refine AllL.cons (o := _) rfl (fun K hK => ?_) AllL.nil
              have z0 := SS.out.swap.cell 0
              have f0 := SS.out.swap.free 0
              have z1 := SS.out.swap.cell 1
              have f1 := SS.out.swap.free 1
              have z2 := SS.out.swap.cell 2
              have f2 := SS.out.swap.free 2
              have z3 := SS.out.swap.cell 3
              have f3 := SS.out.swap.free 3
              have z4 := SS.out.swap.cell 4
              have f4 := SS.out.swap.free 4
              have z5 := SS.out.swap.cell 5
              have f5 := SS.out.swap.free 5
              simp only [List.getElem?_toArray, List.getElem?_cons_succ, List.getElem?_cons_zero] at z0 z1 z2 z3 z4 z5
              go_simp
              refine hK.out _ _ (fun hv => absurd hv (by decide +kernel)) ?_
              clear hK K
              try simp only [Act.put, List.setIfInBounds_toArray, List.set_cons_zero, List.set_cons_succ]
              refine wpAnyL_ready (rs := [12]) (by kernel_rfl) (by simp) ?_
              refine AllL.cons (o := _) rfl (fun K hK => ?_) AllL.nil
              go_simp
              refine hK.out _ _ (fun hv => absurd hv (by decide +kernel)) ?_
              clear hK K
              try simp only [Act.put, List.setIfInBounds_toArray, List.set_cons_zero, List.set_cons_succ]
              replace SS := hid ((((((SS.out.swap.set 0 (.int .i64 0)).set 1 (.int .i64 0)).set 2 (.string ⟨#[]⟩)).set 3 (.slice ju 0 jd)).set 4 (.slice ru 0 rd)).set 5 (.slice bu 0 bd)).swap
              clear z0 z1 z2 z3 z4 z5 f0 f1 f2 f3 f4 f5
              refine wpAnyL_done (by kernel_rfl) ?_ _
              refine NoPanic.normal ?_
              go_wp2_with fail
              go_meet
              exact ⟨_, ju, jd, ru, rd, bu, bd, h3, rfl, rfl, LL, HRR, SS⟩
          case rest =>
            clear S
            obtain ⟨yb, ju, jd, ru, rd, bu, bd, h1, rfl, rfl, LL, HU, S⟩ := hcut
            replace HQ := hid (HQ.out.mono LL.out)
            replace HL := hid (HL.out.trans LL.out)
            replace HT := hid (TIn.mono LL.out _ HT.out)
            replace HR := hid (HR.out.mono LL.out)
            clear LL
            obtain ⟨hi, HHI⟩ : ∃ hi, Hid (h1 = hi) := ⟨_, hid rfl⟩
            rw [HHI.out] at S HQ HL HT HU HR
            go_upto_region 10 with fail
            go_cut [12, 13] from 57 to 64 (fun pv qv wd => ∃ (eb : Nat) (je : Option Addr) (jf : Nat) (re : Option Addr) (rf : Nat) (be : Option Addr) (bf : Nat) (h' : Nat → Option Obj), pv = .pointer (some ⟨eb, 0, none⟩) ∧ qv = .bool false ∧ Hid (Le hi h') ∧ Hid (Sat W wd (arch h' :: blk eb (.cells #[.int .i64 0, .int .i64 0, .string ⟨#[]⟩, .slice je 0 jf, .slice re 0 rf, .slice be 0 bf] 35 (0, 0)) :: blk yb (.cells #[.int .i64 0, .int .i64 0, .string ⟨#[]⟩, .slice ju 0 jd, .slice ru 0 rd, .slice bu 0 bd] 35 (0, 0)) :: blk tb (.cells #[.int .i64 5, .int .i64 0, .string ⟨#[]⟩, .slice A i ca, .slice none 0 0, .slice none 0 0] 35 (0, 0)) :: [])))
            case first =>
              refine wp_region_noPanic ?_
              have hSw := cells6 S.out.drew.rot3
              refine wp_region_L (S := fun w' => World.cell? w' ⟨tb, 0, none⟩ = some (.int .i64 5) ∧ World.cell? w' ⟨tb, 1, none⟩ = some (.int .i64 0) ∧ World.cell? w' ⟨tb, 2, none⟩ = some (.string ⟨#[]⟩) ∧ World.cell? w' ⟨tb, 3, none⟩ = some (.slice A i ca) ∧ World.cell? w' ⟨tb, 4, none⟩ = some (.slice none 0 0) ∧ World.cell? w' ⟨tb, 5, none⟩ = some (.slice none 0 0)) 3 (by kernel_rfl) ?_
              refine wpAnyL_pure (i := 0) (d := 58) (v := ?_) rfl (by kernel_rfl) (by kernel_rfl) (by kernel_rfl) (by kernel_rfl) (by decide) (fun _ _ _ h => h) (Or.inl ⟨by rfl, ?_⟩) (fun _ => hSw) ?_
              rotate_left
              · intro w _; go_simp; all_goals with_reducible rfl
              try simp only [Act.put, List.setIfInBounds_toArray, List.set_cons_zero, List.set_cons_succ]
              refine wpAnyL_load (i := 2) (d := 60) (v := ?_) rfl (by kernel_rfl) (by kernel_rfl) (by kernel_rfl) (by kernel_rfl) (by decide) (by kernel_rfl) (by kernel_rfl) (fun _ _ _ h => h) (Or.inl ⟨by rfl, ?_⟩) hSw ?_
              rotate_left
              · intro w hSw; (try dsimp only at hSw); go_simp; all_goals with_reducible rfl
              try simp only [Act.put, List.setIfInBounds_toArray, List.set_cons_zero, List.set_cons_succ]
              have SS := hid S.out.drew
              refine wpAnyL_ready (rs := [1, 8]) (by kernel_rfl) (by simp) ?_
              refine AllL.cons (o := _) rfl (fun K hK => ?_) (AllL.cons (o := _) rfl (fun K hK => ?_) AllL.nil)
              · skip
                go_simp
                go_at_call 21
                with_reducible refine (num8_any SS.out _).mono ?_
                rintro e wn0 ⟨rfl, s⟩
                replace SS := hid s
                clear s
                replace hSw := cells6 SS.out.rot3
                refine hK.out _ _ (fun _ => hSw) ?_
                clear hK K
                try simp only [Act.put, List.setIfInBounds_toArray, List.set_cons_zero, List.set_cons_succ]
                refine wpAnyL_ready (rs := [3, 8]) (by kernel_rfl) (by simp) ?_
                refine AllL.cons (o := _) rfl (fun K hK => ?_) (AllL.cons (o := _) rfl (fun K hK => ?_) AllL.nil)
                · skip
                  go_simp
                  replace SS := hid (SS.out.allocAt (k := wn0.heap.size) (.cells #[.int .i64 1, .int .i64 (kk), .string ⟨#[]⟩, .slice none 0 0, .slice none 0 0, .slice none 0 0, .int .i64 5, .int .i64 0, .string ⟨#[]⟩, .slice A i ca, .slice none 0 0, .slice none 0 0] 35) (by simp))
                  clear hSw
                  refine hK.out _ _ (fun hv => absurd hv (by decide +kernel)) ?_
                  clear hK K
                  try simp only [Act.put, List.setIfInBounds_toArray, List.set_cons_zero, List.set_cons_succ]
                  refine wpAnyL_ready (rs := [4, 8]) (by kernel_rfl) (by simp) ?_
                  refine AllL.cons (o := _) rfl (fun K hK => ?_) (AllL.cons (o := _) rfl (fun K hK => ?_) AllL.nil)
                  · skip
                    go_simp
                    go_at_call 23
                    refine (do_element HQ.out SS.out kk NS (in_N _ _) HT.out FK.out HNL.out HFN.out).mono ?_
                    intro e wd hd
                    rw [HEO.out] at hd
                    obtain ⟨je, jf, re, rf, be, bf, h3, rfl, l, s, _⟩ := hd.bad
                    replace SS := hid s
                    have LL := hid l
                    clear s l hd
                    refine hK.out _ _ (fun hv => absurd hv (by decide +kernel)) ?_
                    clear hK K
                    try simp only [Act.put, List.setIfInBounds_toArray, List.set_cons_zero, List.set_cons_succ]
                    refine wpAnyL_pure (i := 5) (d := 57) (v := ?_) rfl (by kernel_rfl) (by kernel_rfl) (by kernel_rfl) (by kernel_rfl) (by decide) (fun _ _ _ h => h) (Or.inl ⟨by rfl, ?_⟩) (fun hv => absurd hv (by decide +kernel)) ?_
                    rotate_left
                    · intro w _; go_simp; all_goals with_reducible rfl
                    try simp only [Act.put, List.setIfInBounds_toArray, List.set_cons_zero, List.set_cons_succ]
                    refine wpAnyL_pure (i := 6) (d := 63) (v := ?_) rfl (by kernel_rfl) (by kernel_rfl) (by kernel_rfl) (by kernel_rfl) (by decide) (fun _ _ _ h => h) (Or.inl ⟨by rfl, ?_⟩) (fun hv => absurd hv (by decide +kernel)) ?_
                    rotate_left
                    · intro w _; go_simp; all_goals with_reducible rfl
                    try simp only [Act.put, List.setIfInBounds_toArray, List.set_cons_zero, List.set_cons_succ]
                    refine wpAnyL_pure (i := 7) (d := 64) (v := ?_) rfl (by kernel_rfl) (by kernel_rfl) (by kernel_rfl) (by kernel_rfl) (by decide) (fun _ _ _ h => h) (Or.inl ⟨by rfl, ?_⟩) (fun hv => absurd hv (by decide +kernel)) ?_
                    rotate_left
                    · intro w _; go_simp; all_goals with_reducible rfl
                    try simp only [Act.put, List.setIfInBounds_toArray, List.set_cons_zero, List.set_cons_succ]
                    refine wpAnyL_ready (rs := [8]) (by kernel_rfl) (by simp) ?_
                    refine AllL.cons (o := _) rfl (fun K hK => ?_) AllL.nil
                    have S0 := SS
                    go_simp
                    replace SS := hid (SS.out.allocAt (k := wd.heap.size) (.cells #[.int .i64 0, .int .i64 0, .string ⟨#[]⟩, .slice none 0 0, .slice none 0 0, .slice none 0 0] 35) (by simp)).swap
                    refine hK.out _ _ (fun hv => absurd hv (by decide +kernel)) ?_
                    clear hK K
                    try simp only [Act.put, List.setIfInBounds_toArray, List.set_cons_zero, List.set_cons_succ]
                    refine wpAnyL_ready (rs := [9]) (by kernel_rfl) (by simp) ?_
                    refine AllL.cons (o := _) rfl (fun K hK => ?_) AllL.nil
                    have z0 := SS.out.swap.cell 0
                    have f0 := SS.out.swap.free 0
                    have z1 := SS.out.swap.cell 1
                    have f1 := SS.out.swap.free 1
                    have z2 := SS.out.swap.cell 2
                    have f2 := SS.out.swap.free 2
                    have z3 := SS.out.swap.cell 3
                    have f3 := SS.out.swap.free 3
                    have z4 := SS.out.swap.cell 4
                    have f4 := SS.out.swap.free 4
                    have z5 := SS.out.swap.cell 5
                    have f5 := SS.out.swap.free 5
                    simp only [List.getElem?_toArray, List.getElem?_cons_succ, List.getElem?_cons_zero] at z0 z1 z2 z3 z4 z5
                    go_simp
                    refine hK.out _ _ (fun hv => absurd hv (by decide +kernel)) ?_
                    clear hK K
                    try simp only [Act.put, List.setIfInBounds_toArray, List.set_cons_zero, List.set_cons_succ]
                    refine wpAnyL_ready (rs := [10]) (by kernel_rfl) (by simp) ?_
                    refine AllL.cons (o := _) rfl (fun K hK => ?_) AllL.nil
                    go_simp
                    refine hK.out _ _ (fun hv => absurd hv (by decide +kernel)) ?_
                    clear hK K
                    try simp only [Act.put, List.setIfInBounds_toArray, List.set_cons_zero, List.set_cons_succ]
                    replace SS := hid (S0.out.allocAt (k := wd.heap.size) (.cells #[.int .i64 0, .int .i64 0, .string ⟨#[]⟩, .slice je 0 jf, .slice re 0 rf, .slice be 0 bf] 35) (by simp)).swap
                    clear z0 z1 z2 z3 z4 z5 f0 f1 f2 f3 f4 f5
                    refine wpAnyL_done (by kernel_rfl) ?_ _
                    refine NoPanic.normal ?_
                    go_wp2_with fail
                    go_meet
                    exact ⟨_, je, jf, re, rf, be, bf, h3, rfl, rfl, LL, SS⟩
                  · skip
                    go_simp
                    replace SS := hid (SS.out.allocAt (k := wn0.heap.size + 1) (.cells #[.int .i64 0, .int .i64 0, .string ⟨#[]⟩, .slice none 0 0, .slice none 0 0, .slice none 0 0] 35) (by simp)).unrot3
                    refine hK.out _ _ (fun hv => absurd hv (by decide +kernel)) ?_
                    clear hK K
                    try simp only [Act.put, List.setIfInBounds_toArray, List.set_cons_zero, List.set_cons_succ]
                    refine wpAnyL_ready (rs := [4]) (by kernel_rfl) (by simp) ?_
                    refine AllL.cons (o := _) rfl (fun K hK => ?_) AllL.nil
                    go_simp
                    go_at_call 23
                    refine (do_element HQ.out SS.out kk NS (in_N _ _) HT.out FK.out HNL.out HFN.out).mono ?_
                    intro e wd hd
                    rw [HEO.out] at hd
                    obtain ⟨je, jf, re, rf, be, bf, h3, rfl, l, s, _⟩ := hd.bad
                    replace SS := hid s
                    have LL := hid l
                    clear s l hd
                    refine hK.out _ _ (fun hv => absurd hv (by decide +kernel)) ?_
                    clear hK K
                    try simp only [Act.put, List.setIfInBounds_toArray, List.set_cons_zero, List.set_cons_succ]
                    refine wpAnyL_pure (i := 5) (d := 57) (v := ?_) rfl (by kernel_rfl) (by kernel_rfl) (by kernel_rfl) (by kernel_rfl) (by decide) (fun _ _ _ h => h) (Or.inl ⟨by rfl, ?_⟩) (fun hv => absurd hv (by decide +kernel)) ?_
                    rotate_left
                    · intro w _; go_simp; all_goals with_reducible rfl
                    try simp only [Act.put, List.setIfInBounds_toArray, List.set_cons_zero, List.set_cons_succ]
                    refine wpAnyL_pure (i := 6) (d := 63) (v := ?_) rfl (by kernel_rfl) (by kernel_rfl) (by kernel_rfl) (by kernel_rfl) (by decide) (fun _ _ _ h => h) (Or.inl ⟨by rfl, ?_⟩) (fun hv => absurd hv (by decide +kernel)) ?_
                    rotate_left
                    · intro w _; go_simp; all_goals with_reducible rfl
                    try simp only [Act.put, List.setIfInBounds_toArray, List.set_cons_zero, List.set_cons_succ]
                    refine wpAnyL_pure (i := 7) (d := 64) (v := ?_) rfl (by kernel_rfl) (by kernel_rfl) (by kernel_rfl) (by kernel_rfl) (by decide) (fun _ _ _ h => h) (Or.inl ⟨by rfl, ?_⟩) (fun hv => absurd hv (by decide +kernel)) ?_
                    rotate_left
                    · intro w _; go_simp; all_goals with_reducible rfl
                    try simp only [Act.put, List.setIfInBounds_toArray, List.set_cons_zero, List.set_cons_succ]
                    refine wpAnyL_ready (rs := [9]) (by kernel_rfl) (by simp) ?_
                    refine AllL.cons (o := _) rfl (fun K hK => ?_) AllL.nil
                    have z0 := SS.out.swap.cell 0
                    have f0 := SS.out.swap.free 0
                    have z1 := SS.out.swap.cell 1
                    have f1 := SS.out.swap.free 1
                    have z2 := SS.out.swap.cell 2
                    have f2 := SS.out.swap.free 2
                    have z3 := SS.out.swap.cell 3
                    have f3 := SS.out.swap.free 3
                    have z4 := SS.out.swap.cell 4
                    have f4 := SS.out.swap.free 4
                    have z5 := SS.out.swap.cell 5
                    have f5 := SS.out.swap.free 5
                    simp only [List.getElem?_toArray, List.getElem?_cons_succ, List.getElem?_cons_zero] at z0 z1 z2 z3 z4 z5
                    go_simp
                    refine hK.out _ _ (fun hv => absurd hv (by decide +kernel)) ?_
                    clear hK K
                    try simp only [Act.put, List.setIfInBounds_toArray, List.set_cons_zero, List.set_cons_succ]
                    refine wpAnyL_ready (rs := [10]) (by kernel_rfl) (by simp) ?_
                    refine AllL.cons (o := _) rfl (fun K hK => ?_) AllL.nil
                    go_simp
                    refine hK.out _ _ (fun hv => absurd hv (by decide +kernel)) ?_
                    clear hK K
                    try simp only [Act.put, List.setIfInBounds_toArray, List.set_cons_zero, List.set_cons_succ]
                    replace SS := hid ((((((SS.out.swap.set 0 (.int .i64 0)).set 1 (.int .i64 0)).set 2 (.string ⟨#[]⟩)).set 3 (.slice je 0 jf)).set 4 (.slice re 0 rf)).set 5 (.slice be 0 bf)).swap
                    clear z0 z1 z2 z3 z4 z5 f0 f1 f2 f3 f4 f5
                    refine wpAnyL_done (by kernel_rfl) ?_ _
                    refine NoPanic.normal ?_
                    go_wp2_with fail
                    go_meet
                    exact ⟨_, je, jf, re, rf, be, bf, h3, rfl, rfl, LL, SS⟩
                · skip
                  go_simp
                  replace SS := hid (SS.out.allocAt (k := wn0.heap.size) (.cells #[.int .i64 0, .int .i64 0, .string ⟨#[]⟩, .slice none 0 0, .slice none 0 0, .slice none 0 0] 35) (by simp)).swap
                  replace hSw := cells6 SS.out.rot4
                  refine hK.out _ _ (fun _ => hSw) ?_
                  clear hK K
                  try simp only [Act.put, List.setIfInBounds_toArray, List.set_cons_zero, List.set_cons_succ]
                  refine wpAnyL_ready (rs := [3]) (by kernel_rfl) (by simp) ?_
                  refine AllL.cons (o := _) rfl (fun K hK => ?_) AllL.nil
                  go_simp
                  replace SS := hid (SS.out.allocAt (k := wn0.heap.size + 1) (.cells #[.int .i64 1, .int .i64 (kk), .string ⟨#[]⟩, .slice none 0 0, .slice none 0 0, .slice none 0 0, .int .i64 5, .int .i64 0, .string ⟨#[]⟩, .slice A i ca, .slice none 0 0, .slice none 0 0] 35) (by simp))
                  clear hSw
                  refine hK.out _ _ (fun hv => absurd hv (by decide +kernel)) ?_
                  clear hK K
                  try simp only [Act.put, List.setIfInBounds_toArray, List.set_cons_zero, List.set_cons_succ]
                  refine wpAnyL_ready (rs := [4]) (by kernel_rfl) (by simp) ?_
                  refine AllL.cons (o := _) rfl (fun K hK => ?_) AllL.nil
                  go_simp
                  go_at_call 23
                  refine (do_element HQ.out SS.out kk NS (in_N _ _) HT.out FK.out HNL.out HFN.out).mono ?_
                  intro e wd hd
                  rw [HEO.out] at hd
                  obtain ⟨je, jf, re, rf, be, bf, h3, rfl, l, s, _⟩ := hd.bad
                  replace SS := hid s
                  have LL := hid l
                  clear s l hd
                  refine hK.out _ _ (fun hv => absurd hv (by decide +kernel)) ?_
                  clear hK K
                  try simp only [Act.put, List.setIfInBounds_toArray, List.set_cons_zero, List.set_cons_succ]
                  refine wpAnyL_pure (i := 5) (d := 57) (v := ?_) rfl (by kernel_rfl) (by kernel_rfl) (by kernel_rfl) (by kernel_rfl) (by decide) (fun _ _ _ h => h) (Or.inl ⟨by rfl, ?_⟩) (fun hv => absurd hv (by decide +kernel)) ?_
                  rotate_left
                  · intro w _; go_simp; all_goals with_reducible rfl
                  try simp only [Act.put, List.setIfInBounds_toArray, List.set_cons_zero, List.set_cons_succ]
                  refine wpAnyL_pure (i := 6) (d := 63) (v := ?_) rfl (by kernel_rfl) (by kernel_rfl) (by kernel_rfl) (by kernel_rfl) (by decide) (fun _ _ _ h => h) (Or.inl ⟨by rfl, ?_⟩) (fun hv => absurd hv (by decide +kernel)) ?_
                  rotate_left
                  · intro w _; go_simp; all_goals with_reducible rfl
                  try simp only [Act.put, List.setIfInBounds_toArray, List.set_cons_zero, List.set_cons_succ]
                  refine wpAnyL_pure (i := 7) (d := 64) (v := ?_) rfl (by kernel_rfl) (by kernel_rfl) (by kernel_rfl) (by kernel_rfl) (by decide) (fun _ _ _ h => h) (Or.inl ⟨by rfl, ?_⟩) (fun hv => absurd hv (by decide +kernel)) ?_
                  rotate_left
                  · intro w _; go_simp; all_goals with_reducible rfl
                  try simp only [Act.put, List.setIfInBounds_toArray, List.set_cons_zero, List.set_cons_succ]
                  refine wpAnyL_ready (rs := [9]) (by kernel_rfl) (by simp) ?_
                  refine AllL.cons (o := _) rfl (fun K hK => ?_) AllL.nil
                  have z0 := SS.out.swap.cell 0
                  have f0 := SS.out.swap.free 0
                  have z1 := SS.out.swap.cell 1
                  have f1 := SS.out.swap.free 1
                  have z2 := SS.out.swap.cell 2
                  have f2 := SS.out.swap.free 2
                  have z3 := SS.out.swap.cell 3
                  have f3 := SS.out.swap.free 3
                  have z4 := SS.out.swap.cell 4
                  have f4 := SS.out.swap.free 4
                  have z5 := SS.out.swap.cell 5
                  have f5 := SS.out.swap.free 5
                  simp only [List.getElem?_toArray, List.getElem?_cons_succ, List.getElem?_cons_zero] at z0 z1 z2 z3 z4 z5
                  go_simp
                  refine hK.out _ _ (fun hv => absurd hv (by decide +kernel)) ?_
                  clear hK K
                  try simp only [Act.put, List.setIfInBounds_toArray, List.set_cons_zero, List.set_cons_succ]
                  refine wpAnyL_ready (rs := [10]) (by kernel_rfl) (by simp) ?_
                  refine AllL.cons (o := _) rfl (fun K hK => ?_) AllL.nil
                  go_simp
                  refine hK.out _ _ (fun hv => absurd hv (by decide +kernel)) ?_
                  clear hK K
                  try simp only [Act.put, List.setIfInBounds_toArray, List.set_cons_zero, List.set_cons_succ]
                  replace SS := hid ((((((SS.out.swap.set 0 (.int .i64 0)).set 1 (.int .i64 0)).set 2 (.string ⟨#[]⟩)).set 3 (.slice je 0 jf)).set 4 (.slice re 0 rf)).set 5 (.slice be 0 bf)).swap
                  clear z0 z1 z2 z3 z4 z5 f0 f1 f2 f3 f4 f5
                  refine wpAnyL_done (by kernel_rfl) ?_ _
                  refine NoPanic.normal ?_
                  go_wp2_with fail
                  go_meet
                  exact ⟨_, je, jf, re, rf, be, bf, h3, rfl, rfl, LL, SS⟩
              · skip
                go_simp
                replace SS := hid (S.out.allocAt (k := wc.heap.size) (.cells #[.int .i64 0, .int .i64 0, .string ⟨#[]⟩, .slice none 0 0, .slice none 0 0, .slice none 0 0] 35) (by simp)).swap.drew
                replace hSw := cells6 SS.out.rot4
                refine hK.out _ _ (fun _ => hSw) ?_
                clear hK K
                try simp only [Act.put, List.setIfInBounds_toArray, List.set_cons_zero, List.set_cons_succ]
                refine wpAnyL_ready (rs := [1]) (by kernel_rfl) (by simp) ?_
                refine AllL.cons (o := _) rfl (fun K hK => ?_) AllL.nil
                go_simp
                go_at_call 21
                with_reducible refine (num8_any SS.out _).mono ?_
                rintro e wn0 ⟨rfl, s⟩
                replace SS := hid s
                clear s
                replace hSw := cells6 SS.out.rot4
                refine hK.out _ _ (fun _ => hSw) ?_
                clear hK K
                try simp only [Act.put, List.setIfInBounds_toArray, List.set_cons_zero, List.set_cons_succ]
                refine wpAnyL_ready (rs := [3]) (by kernel_rfl) (by simp) ?_
                refine AllL.cons (o := _) rfl (fun K hK => ?_) AllL.nil
                go_simp
                replace SS := hid (SS.out.allocAt (k := wn0.heap.size) (.cells #[.int .i64 1, .int .i64 (kk), .string ⟨#[]⟩, .slice none 0 0, .slice none 0 0, .slice none 0 0, .int .i64 5, .int .i64 0, .string ⟨#[]⟩, .slice A i ca, .slice none 0 0, .slice none 0 0] 35) (by simp))
                clear hSw
                refine hK.out _ _ (fun hv => absurd hv (by decide +kernel)) ?_
                clear hK K
                try simp only [Act.put, List.setIfInBounds_toArray, List.set_cons_zero, List.set_cons_succ]
                refine wpAnyL_ready (rs := [4]) (by kernel_rfl) (by simp) ?_
                refine AllL.cons (o := _) rfl (fun K hK => ?_) AllL.nil
                go_simp
                go_at_call 23
                refine (do_element HQ.out SS.out kk NS (in_N _ _) HT.out FK.out HNL.out HFN.out).mono ?_
                intro e wd hd
                rw [HEO.out] at hd
                obtain ⟨je, jf, re, rf, be, bf, h3, rfl, l, s, _⟩ := hd.bad
                replace SS := hid s
                have LL := hid l
                clear s l hd
                refine hK.out _ _ (fun hv => absurd hv (by decide +kernel)) ?_
                clear hK K
                try simp only [Act.put, List.setIfInBounds_toArray, List.set_cons_zero, List.set_cons_succ]
                refine wpAnyL_pure (i := 5) (d := 57) (v := ?_) rfl (by kernel_rfl) (by kernel_rfl) (by kernel_rfl) (by kernel_rfl) (by decide) (fun _ _ _ h => h) (Or.inl ⟨by rfl, ?_⟩) (fun hv => absurd hv (by decide +kernel)) ?_
                rotate_left
                · intro w _; go_simp; all_goals with_reducible rfl
                try simp only [Act.put, List.setIfInBounds_toArray, List.set_cons_zero, List.set_cons_succ]
                refine wpAnyL_pure (i := 6) (d := 63) (v := ?_) rfl (by kernel_rfl) (by kernel_rfl) (by kernel_rfl) (by kernel_rfl) (by decide) (fun _ _ _ h => h) (Or.inl ⟨by rfl, ?_⟩) (fun hv => absurd hv (by decide +kernel)) ?_
                rotate_left
                · intro w _; go_simp; all_goals with_reducible rfl
                try simp only [Act.put, List.setIfInBounds_toArray, List.set_cons_zero, List.set_cons_succ]
                refine wpAnyL_pure (i := 7) (d := 64) (v := ?_) rfl (by kernel_rfl) (by kernel_rfl) (by kernel_rfl) (by kernel_rfl) (by decide) (fun _ _ _ h => h) (Or.inl ⟨by rfl, ?_⟩) (fun hv => absurd hv (by decide +kernel)) ?_
                rotate_left
                · intro w _; go_simp; all_goals with_reducible rfl
                try simp only [Act.put, List.setIfInBounds_toArray, List.set_cons_zero, List.set_cons_succ]
                refine wpAnyL_ready (rs := [9]) (by kernel_rfl) (by simp) ?_
                refine AllL.cons (o := _) rfl (fun K hK => ?_) AllL.nil
                have z0 := SS.out.swap.cell 0
                have f0 := SS.out.swap.free 0
                have z1 := SS.out.swap.cell 1
                have f1 := SS.out.swap.free 1
                have z2 := SS.out.swap.cell 2
                have f2 := SS.out.swap.free 2
                have z3 := SS.out.swap.cell 3
                have f3 := SS.out.swap.free 3
                have z4 := SS.out.swap.cell 4
                have f4 := SS.out.swap.free 4
                have z5 := SS.out.swap.cell 5
                have f5 := SS.out.swap.free 5
                simp only [List.getElem?_toArray, List.getElem?_cons_succ, List.getElem?_cons_zero] at z0 z1 z2 z3 z4 z5
                go_simp
                refine hK.out _ _ (fun hv => absurd hv (by decide +kernel)) ?_
                clear hK K
                try simp only [Act.put, List.setIfInBounds_toArray, List.set_cons_zero, List.set_cons_succ]
                refine wpAnyL_ready (rs := [10]) (by kernel_rfl) (by simp) ?_
                refine AllL.cons (o := _) rfl (fun K hK => ?_) AllL.nil
                go_simp
                refine hK.out _ _ (fun hv => absurd hv (by decide +kernel)) ?_
                clear hK K
                try simp only [Act.put, List.setIfInBounds_toArray, List.set_cons_zero, List.set_cons_succ]
                replace SS := hid ((((((SS.out.swap.set 0 (.int .i64 0)).set 1 (.int .i64 0)).set 2 (.string ⟨#[]⟩)).set 3 (.slice je 0 jf)).set 4 (.slice re 0 rf)).set 5 (.slice be 0 bf)).swap
                clear z0 z1 z2 z3 z4 z5 f0 f1 f2 f3 f4 f5
                refine wpAnyL_done (by kernel_rfl) ?_ _
                refine NoPanic.normal ?_
                go_wp2_with fail
                go_meet
                exact ⟨_, je, jf, re, rf, be, bf, h3, rfl, rfl, LL, SS⟩
            case rest =>
              clear S
              obtain ⟨zb, je, jf, re, rf, be, bf, h2, rfl, rfl, LL, S⟩ := hcut
              replace HQ := hid (HQ.out.mono LL.out)
              replace HL := hid (HL.out.trans LL.out)
              clear LL HT HEO HSO
              have HA := hid (awake8 HQ.out S.out)
              by_cases h1k : 1 ≤ kk
              · skip
                have b1 : decide (kk ≥ 1) = true := by simp; omega
                have b2 : decide (kk ≤ (i : Int)) = false := by simp; omega
                clear hin h1k hk0 hk1
                go_wp2_with fail
                refine HA.out.mono ?_
                rintro e w9 ⟨h9, rfl, l9, s9⟩
                go_wp2_with fail
                go_ret
                exact ⟨rfl, s9.archBelow (HL.out.trans l9)⟩
              · skip
                have b1 : decide (kk ≥ 1) = false := by simp; omega
                clear hin h1k hk0 hk1
                go_wp2_with fail
                refine HA.out.mono ?_
                rintro e w9 ⟨h9, rfl, l9, s9⟩
                go_wp2_with fail
                go_ret
                exact ⟨rfl, s9.archBelow (HL.out.trans l9)⟩
#print axioms tuples_walk
end Go.Proofs.YtlgogflhjpcmlaaDoor
