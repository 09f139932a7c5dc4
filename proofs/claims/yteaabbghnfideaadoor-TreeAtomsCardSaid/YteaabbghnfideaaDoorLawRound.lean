/-
  TreeRound: the law's own walk. (Written by wip/gen/gen_lawround.py.)
-/
import Derived.Test.YteaabbghnfideaaDoorPrsI
import Derived.Test.YteaabbghnfideaaDoorSameT
import Derived.Test.YteaabbghnfideaaDoorCAny
import Derived.Test.YteaabbghnfideaaDoorAwake
namespace Go.Proofs.YteaabbghnfideaaDoor
open Go.RowKit
set_option maxHeartbeats 8000000
set_option maxRecDepth 100000

theorem byts_inB (s : ByteArray) : InB (rem s 0) := by
  unfold rem
  intro x hx
  have hx := List.mem_of_mem_drop hx
  unfold byts at hx
  obtain ⟨b, _, rfl⟩ := List.mem_map.1 hx
  have := b.toNat_lt
  omega
theorem rem0 (s : ByteArray) : rem s 0 = byts s := by unfold rem; rfl
/-- a text that Parse takes is its term's text -/
theorem parsF_some {s : ByteArray} {t : T} (h : parsF s = some t) (hs : s.size ≤ 4294967296) : byts s = txt t ∧ TFl t ∧ NOk t ∧ TOk t ∧ rightOf t = none := by
  unfold parsF at h
  cases hr : runP [] none (rem s 0) with
  | none => rw [hr] at h; simp at h
  | some y =>
    obtain ⟨u, r⟩ := y
    rw [hr] at h
    cases r with
    | cons a r => simp at h
    | nil =>
      simp only at h
      cases hro : rightOf u with
      | some e => rw [hro] at h; simp at h
      | none =>
        rw [hro] at h
        simp only [Option.some.injEq] at h
        subst h
        obtain ⟨h1, h2, h3⟩ := run_text (byts_inB s) hr
        rw [rem0] at h1
        exact ⟨h1, h2, h3, tok_text u h2 h3 (by rw [← h1, byts_len]; omega), hro⟩
/-- a right term's text is taken as it -/
theorem parsF_txt {s : ByteArray} {t : T} (h : byts s = txt t) (hok : TOk t) (hr : rightOf t = none) : parsF s = some t := by
  unfold parsF
  rw [rem0, h, reads_all (right_fl hr) hok]
  simp only
  rw [hr]
theorem right_txt_size {s : ByteArray} {t : T} (h : byts s = txt t) (hok : TOk t) (hr : rightOf t = none) : s.size ≤ 4294967296 := by
  have h1 := txt_len t hok (right_fl hr)
  have h2 := right_sz hr
  rw [← byts_len, h]
  omega
def tZ : T := .mk 0 0 ⟨#[]⟩ [] [] []
theorem TOk.of0 : TOk tZ := by
  have h1 : (⟨#[]⟩ : ByteArray).size = 0 := rfl
  simp [TOk, LOk, tZ, fits, h1]
theorem in_Z (h : Nat → Option Obj) : TIn h tZ [.int .i64 0, .int .i64 0, .string ⟨#[]⟩, .slice none 0 0, .slice none 0 0, .slice none 0 0] :=
  TIn.of (t := tZ) (ia := none) (ra := none) (ba := none) (ic := 0) (rc := 0) (bc := 0) (LIn.nil _ _) (LIn.nil _ _) (RdIn.nil _ _) (by simp [tZ, T.is, T.rs, T.bs, maxLen])

theorem round_walk {W : World} {t : T} (cs : Array Value) (s : ByteArray) (hg : TGood W cs.toList t) (hT : Tab (heapOf W)) (hs : s.size ≤ 4294967296) :
    Calls Tryd.prog 11 #[.agg cs, .string s] W fun e w' => e = .returned (.bool true) ∧ Below W.heap.size W w' := by
  obtain ⟨hin, hok⟩ := hg
  obtain ⟨ia, ic, ra, rc, ba, bc, hcs, _⟩ := id hin.vals
  obtain rfl : cs = (tVals t ia ic ra rc ba bc).toArray := by rw [← hcs]
  have hin : TIn (heapOf W) t (tVals t ia ic ra rc ba bc) := hin
  have S0 := hid ((Sat.startArch W).allocAt (k := W.heap.size) (.cells (tVals t ia ic ra rc ba bc).toArray 25) rfl).swap
  have HC := hid (c_any S0.out t (tVals t ia ic ra rc ba bc) hin hok)
  have HIN := hid hin
  have HOK := hid hok
  have HT := hid hT
  obtain ⟨pq, HPQ⟩ : ∃ pq, Hid (parsF s = pq) := ⟨_, hid rfl⟩
  unfold tVals at HC HIN ⊢
  clear hcs hin hok S0 hT
  go_enter Tryd.func11, Tryd.ntmps11
  go_wp2_with fail
  refine HC.out.mono ?_
  rintro e w1 ⟨vs1, h1, rfl, l1, q1, s1⟩
  obtain ⟨ia1, ic1, ra1, rc1, ba1, bc1, rfl, _⟩ := id q1.vals
  have L1 := hid l1
  have HWR := hid (write_any (HT.out.mono l1) s1 t _ q1 HOK.out)
  clear l1 q1 s1 HC
  unfold tVals at HWR ⊢
  go_wp2_with fail
  refine HWR.out.mono ?_
  rintro e w2 ⟨sv, ev, h2, rfl, l2, hw, s2⟩
  have L2 := hid (L1.out.trans l2)
  have S2 := hid s2
  clear l2 s2 HWR L1
  unfold WOf at hw
  cases hr : rightOf t with
  | some nk =>
    obtain ⟨n, k⟩ := nk
    rw [hr] at hw
    obtain ⟨rfl, he⟩ := hw
    obtain ⟨ty, x, rfl⟩ := he.iface
    have hps := parse_start S2.out hs
    rw [HPQ.out] at hps
    have HPS := hid hps
    clear he hr hps
    go_wp2_with fail
    refine HPS.out.mono ?_
    rintro e w5 hp
    cases pq with
    | none =>
      obtain ⟨v, fs, kk, h5, rfl, l5, he, s5⟩ := hp
      obtain ⟨ty5, x5, rfl⟩ := he.iface
      have L5 := hid (L2.out.trans l5)
      unfold tv6
      have S6 := hid (s5.alloc' (.cells #[.int .i64 0, .int .i64 0, .string ⟨#[]⟩, .slice none 0 0, .slice none 0 0, .slice none 0 0] 25))
      have HS := hid (same_t tZ TOk.of0 W _ _ h5 _ _ S6.out (in_Z _) (in_Z _))
      clear l5 he s5 HPS S2
      go_wp2_with fail
      refine HS.out.mono ?_
      rintro e w6 ⟨rfl, s6⟩
      have S7 := hid s6
      clear s6 HS S6
      go_wp2_with fail
      refine (awake_any S7.out).mono ?_
      rintro e w7 ⟨h7, rfl, l7, s7⟩
      have L7 := hid (L5.out.trans l7)
      have S8 := hid s7
      clear s7 l7 S7
      go_wp2_with fail
      go_ret
      exact ⟨rfl, S8.out.archBelow L7.out⟩
    | some x =>
      obtain ⟨ia5, ic5, ra5, rc5, ba5, bc5, h5, rfl, l5, q5, _, _, s5⟩ := hp
      obtain ⟨e1, e2, e3, e4, e5⟩ := parsF_some HPQ.out hs
      have L5 := hid (L2.out.trans l5)
      unfold tv6 at q5 ⊢
      have S6 := hid ((s5.alloc (.cells #[.int .i64 x.k, .int .i64 x.n, .string x.nm, .slice ia5 x.is.length ic5, .slice ra5 x.rs.length rc5, .slice ba5 x.bs.length bc5] 25)).swap)
      have HWR := hid (write_any (HT.out.mono L5.out) S6.out x _ q5 e4)
      have HQ5 := hid q5
      have HE := hid (And.intro e1 (And.intro e4 e5))
      clear l5 q5 s5 HPS S2 e1 e2 e3 e4 e5
      go_wp2_with fail
      refine HWR.out.mono ?_
      rintro e w6 ⟨sv6, ev6, h6, rfl, l6, hw6, s6⟩
      unfold WOf at hw6
      rw [HE.out.2.2] at hw6
      obtain ⟨rfl, q6, rfl, hq6⟩ := hw6
      obtain rfl : q6 = s := byts_inj (hq6.trans HE.out.1.symm)
      have L6 := hid (L5.out.trans l6)
      have hrt := right_t s6 x _ (TIn.mono l6 x HQ5.out) HE.out.2.1
      rw [HE.out.2.2] at hrt
      have HRT := hid hrt
      have k0 : w6.cell? ⟨w5.heap.size, 0, none⟩ = some (.int .i64 x.k) := s6.swap.cell 0
      have k1 : w6.cell? ⟨w5.heap.size, 1, none⟩ = some (.int .i64 x.n) := s6.swap.cell 1
      have k2 : w6.cell? ⟨w5.heap.size, 2, none⟩ = some (.string x.nm) := s6.swap.cell 2
      have k3 : w6.cell? ⟨w5.heap.size, 3, none⟩ = some (.slice ia5 x.is.length ic5) := s6.swap.cell 3
      have k4 : w6.cell? ⟨w5.heap.size, 4, none⟩ = some (.slice ra5 x.rs.length rc5) := s6.swap.cell 4
      have k5 : w6.cell? ⟨w5.heap.size, 5, none⟩ = some (.slice ba5 x.bs.length bc5) := s6.swap.cell 5
      clear hrt s6 l6 hq6 HWR S6
      go_wp2_with fail
      refine HRT.out.mono ?_
      rintro e w7 ⟨v7, h7, rfl, l7, e7, s7⟩
      have e7 : v7 = .nilIface := e7
      subst e7
      have L7 := hid (L6.out.trans l7)
      have S7 := hid s7
      clear s7 l7 HRT k0 k1 k2 k3 k4 k5
      go_wp2_with fail
      refine (awake_any S7.out).mono ?_
      rintro e w8 ⟨h8, rfl, l8, s8⟩
      have L8 := hid (L7.out.trans l8)
      have S8 := hid s8
      clear s8 l8 S7
      go_wp2_with fail
      go_ret
      exact ⟨rfl, S8.out.archBelow L8.out⟩
  | none =>
    rw [hr] at hw
    obtain ⟨rfl, q, rfl, hq⟩ := hw
    have hpq := parsF_txt hq HOK.out hr
    have hps := parse_start S2.out (right_txt_size hq HOK.out hr)
    rw [hpq] at hps
    have HPS0 := hid hps
    clear hr hq hpq hps
    go_wp2_with fail
    refine HPS0.out.mono ?_
    rintro e w3 hp
    obtain ⟨ia3, ic3, ra3, rc3, ba3, bc3, h3, rfl, l3, q3, _, _, s3⟩ := hp
    have L3 := hid (L2.out.trans l3)
    unfold tv6 at q3 ⊢
    have S4 := hid ((s3.alloc' (.cells #[.int .i64 t.k, .int .i64 t.n, .string t.nm, .slice ia3 t.is.length ic3, .slice ra3 t.rs.length rc3, .slice ba3 t.bs.length bc3] 25)))
    have HS := hid (same_t t HOK.out W _ _ h3 _ _ S4.out q3 (TIn.mono L3.out t HIN.out))
    have k0 : World.cell? (w3.alloc (.cells #[.int .i64 t.k, .int .i64 t.n, .string t.nm, .slice ia3 t.is.length ic3, .slice ra3 t.rs.length rc3, .slice ba3 t.bs.length bc3] 25)) ⟨W.heap.size, 0, none⟩ = some (.int .i64 t.k) := S4.out.swap.cell 0
    have k1 : World.cell? (w3.alloc (.cells #[.int .i64 t.k, .int .i64 t.n, .string t.nm, .slice ia3 t.is.length ic3, .slice ra3 t.rs.length rc3, .slice ba3 t.bs.length bc3] 25)) ⟨W.heap.size, 1, none⟩ = some (.int .i64 t.n) := S4.out.swap.cell 1
    have k2 : World.cell? (w3.alloc (.cells #[.int .i64 t.k, .int .i64 t.n, .string t.nm, .slice ia3 t.is.length ic3, .slice ra3 t.rs.length rc3, .slice ba3 t.bs.length bc3] 25)) ⟨W.heap.size, 2, none⟩ = some (.string t.nm) := S4.out.swap.cell 2
    have k3 : World.cell? (w3.alloc (.cells #[.int .i64 t.k, .int .i64 t.n, .string t.nm, .slice ia3 t.is.length ic3, .slice ra3 t.rs.length rc3, .slice ba3 t.bs.length bc3] 25)) ⟨W.heap.size, 3, none⟩ = some (.slice ia t.is.length ic) := S4.out.swap.cell 3
    have k4 : World.cell? (w3.alloc (.cells #[.int .i64 t.k, .int .i64 t.n, .string t.nm, .slice ia3 t.is.length ic3, .slice ra3 t.rs.length rc3, .slice ba3 t.bs.length bc3] 25)) ⟨W.heap.size, 4, none⟩ = some (.slice ra t.rs.length rc) := S4.out.swap.cell 4
    have k5 : World.cell? (w3.alloc (.cells #[.int .i64 t.k, .int .i64 t.n, .string t.nm, .slice ia3 t.is.length ic3, .slice ra3 t.rs.length rc3, .slice ba3 t.bs.length bc3] 25)) ⟨W.heap.size, 5, none⟩ = some (.slice ba t.bs.length bc) := S4.out.swap.cell 5
    clear l3 q3 s3 S2 L2 HPS0
    go_wp2_with fail
    refine HS.out.mono ?_
    rintro e w4 ⟨rfl, s4⟩
    have S2 := hid s4
    have L2 := L3
    have hps := parse_start S2.out hs
    rw [HPQ.out] at hps
    have HPS := hid hps
    clear hps s4 k0 k1 k2 k3 k4 k5 HS S4
    go_wp2_with fail
    refine HPS.out.mono ?_
    rintro e w5 hp
    cases pq with
    | none =>
      obtain ⟨v, fs, kk, h5, rfl, l5, he, s5⟩ := hp
      obtain ⟨ty5, x5, rfl⟩ := he.iface
      have L5 := hid (L2.out.trans l5)
      unfold tv6
      have S6 := hid (s5.alloc' (.cells #[.int .i64 0, .int .i64 0, .string ⟨#[]⟩, .slice none 0 0, .slice none 0 0, .slice none 0 0] 25))
      have HS := hid (same_t tZ TOk.of0 W _ _ h5 _ _ S6.out (in_Z _) (in_Z _))
      clear l5 he s5 HPS S2
      go_wp2_with fail
      refine HS.out.mono ?_
      rintro e w6 ⟨rfl, s6⟩
      have S7 := hid s6
      clear s6 HS S6
      go_wp2_with fail
      refine (awake_any S7.out).mono ?_
      rintro e w7 ⟨h7, rfl, l7, s7⟩
      have L7 := hid (L5.out.trans l7)
      have S8 := hid s7
      clear s7 l7 S7
      go_wp2_with fail
      go_ret
      exact ⟨rfl, S8.out.archBelow L7.out⟩
    | some x =>
      obtain ⟨ia5, ic5, ra5, rc5, ba5, bc5, h5, rfl, l5, q5, _, _, s5⟩ := hp
      obtain ⟨e1, e2, e3, e4, e5⟩ := parsF_some HPQ.out hs
      have L5 := hid (L2.out.trans l5)
      unfold tv6 at q5 ⊢
      have S6 := hid ((s5.alloc (.cells #[.int .i64 x.k, .int .i64 x.n, .string x.nm, .slice ia5 x.is.length ic5, .slice ra5 x.rs.length rc5, .slice ba5 x.bs.length bc5] 25)).swap)
      have HWR := hid (write_any (HT.out.mono L5.out) S6.out x _ q5 e4)
      have HQ5 := hid q5
      have HE := hid (And.intro e1 (And.intro e4 e5))
      clear l5 q5 s5 HPS S2 e1 e2 e3 e4 e5
      go_wp2_with fail
      refine HWR.out.mono ?_
      rintro e w6 ⟨sv6, ev6, h6, rfl, l6, hw6, s6⟩
      unfold WOf at hw6
      rw [HE.out.2.2] at hw6
      obtain ⟨rfl, q6, rfl, hq6⟩ := hw6
      obtain rfl : q6 = s := byts_inj (hq6.trans HE.out.1.symm)
      have L6 := hid (L5.out.trans l6)
      have hrt := right_t s6 x _ (TIn.mono l6 x HQ5.out) HE.out.2.1
      rw [HE.out.2.2] at hrt
      have HRT := hid hrt
      have k0 : w6.cell? ⟨w5.heap.size, 0, none⟩ = some (.int .i64 x.k) := s6.swap.cell 0
      have k1 : w6.cell? ⟨w5.heap.size, 1, none⟩ = some (.int .i64 x.n) := s6.swap.cell 1
      have k2 : w6.cell? ⟨w5.heap.size, 2, none⟩ = some (.string x.nm) := s6.swap.cell 2
      have k3 : w6.cell? ⟨w5.heap.size, 3, none⟩ = some (.slice ia5 x.is.length ic5) := s6.swap.cell 3
      have k4 : w6.cell? ⟨w5.heap.size, 4, none⟩ = some (.slice ra5 x.rs.length rc5) := s6.swap.cell 4
      have k5 : w6.cell? ⟨w5.heap.size, 5, none⟩ = some (.slice ba5 x.bs.length bc5) := s6.swap.cell 5
      clear hrt s6 l6 hq6 HWR S6
      go_wp2_with fail
      refine HRT.out.mono ?_
      rintro e w7 ⟨v7, h7, rfl, l7, e7, s7⟩
      have e7 : v7 = .nilIface := e7
      subst e7
      have L7 := hid (L6.out.trans l7)
      have S7 := hid s7
      clear s7 l7 HRT k0 k1 k2 k3 k4 k5
      go_wp2_with fail
      refine (awake_any S7.out).mono ?_
      rintro e w8 ⟨h8, rfl, l8, s8⟩
      have L8 := hid (L7.out.trans l8)
      have S8 := hid s8
      clear s8 l8 S7
      go_wp2_with fail
      go_ret
      exact ⟨rfl, S8.out.archBelow L8.out⟩
#print axioms round_walk
end Go.Proofs.YteaabbghnfideaaDoor
