/-
  tree.Copy: a term in new memory, apart from all that was there. (Turned from XCopyP.)
-/
import Derived.Test.YtlgogflhjpcmlaaDoorTCopy
import Derived.Deep.RegionLaw
namespace Go.Proofs.YtlgogflhjpcmlaaDoor
open Go.RowKit
set_option maxHeartbeats 4000000
set_option maxRecDepth 100000

section
variable {W w : World} {L : List HP}
/-- two archives as one -/
theorem Sat.merge {a b : Nat → Option Obj} (s : Sat W w (arch a :: arch b :: L)) : ∃ c, Le a c ∧ Le b c ∧ Sat W w (arch c :: L) := by
  obtain ⟨h, ⟨h1, h2, q1, ⟨h3, h4, q2, _, _, e2⟩, d, e⟩, i⟩ := s.heap
  refine ⟨fun k => (a k).or (b k), fun k o hk => by simp [hk], fun k o hk => ?_, s.join.head fun g => ?_⟩
  · have hn : a k = none := by
      rcases d k with x | x
      · rw [← q1 k]; exact x
      · rw [e2 k, q2 k, hk] at x; simp at x
    simp [hn, hk]
  · rintro ⟨g1, g2, p1, p2, _, pe⟩ k
    rw [pe k, p1 k, p2 k]
/-- a row that is done, in an archive of its own -/
theorem row_arch {e size n c : Nat} {a : Option Addr} {xs : List Value} (s : Sat W w (row e size a n c xs :: L)) : ∃ hn, RdIn hn a xs ∧ Sat W w (arch hn :: L) := by
  have s1 : Sat W w (arch (fun _ => none) :: row e size a n c xs :: L) := s.addEmp
  obtain ⟨h', _, r, s2⟩ := store_row s1.swap
  exact ⟨h', r, s2⟩
theorem Sat.archNil (s : Sat W w L) : Sat W w (arch (fun _ => none) :: L) := s.addEmp
end
/-- what a copy answers: items in a row of their own, all else in an archive of its own -/
structure TopIn (hn : Nat → Option Obj) (t : T) (ia : Option Addr) (ic : Nat) (ra : Option Addr) (rc : Nat) (ba : Option Addr) (bc : Nat) (vss : List (List Value)) : Prop where
  i : TsIn hn t.is vss
  r : LIn hn t.rs ra 0
  b : RdIn hn ba (u8s t.bs)
  q : t.rs.length ≤ rc ∧ t.bs.length ≤ bc ∧ rc ≤ maxLen ∧ bc ≤ maxLen
def CopyTopS (W : World) (L : List HP) (h : Nat → Option Obj) (t : T) (e : Ending) (w' : World) : Prop :=
  ∃ ia ic ra rc ba bc vss hn, e = .returned (.agg (tVals t ia ic ra rc ba bc).toArray) ∧ TopIn hn t ia ic ra rc ba bc vss ∧ Sat W w' (row 35 6 ia t.is.length ic vss.flatten :: arch hn :: arch h :: L)
def CopyTS (t : T) : Prop := ∀ (W w : World) (L : List HP) (h : Nat → Option Obj) (vs : List Value), Sat W w (arch h :: L) → TIn h t vs →
  Calls Tryd.prog 30 #[.agg vs.toArray] w (CopyTopS W L h t)
def CopyPS (t : T) : Prop := ∀ (W w : World) (L : List HP) (h : Nat → Option Obj) (vs : List Value), Sat W w (arch h :: L) → TIn h t vs →
  Calls Tryd.prog 30 #[.agg vs.toArray] w fun e w' => ∃ vs' hn, e = .returned (.agg vs'.toArray) ∧ TIn hn t vs' ∧ Sat W w' (arch hn :: arch h :: L)
theorem TopIn.whole {W w : World} {L : List HP} {hn : Nat → Option Obj} {t : T} {ia ra ba : Option Addr} {ic rc bc : Nat} {vss : List (List Value)} (q : TopIn hn t ia ic ra rc ba bc vss) (s : Sat W w (row 35 6 ia t.is.length ic vss.flatten :: arch hn :: L)) :
    ∃ h2, TIn h2 t (tVals t ia ic ra rc ba bc) ∧ Le hn h2 ∧ Sat W w (arch h2 :: L) := by
  have hl := s.rowLen
  obtain ⟨h2, l2, r2, s2⟩ := store_row s
  exact ⟨h2, TIn.of (LIn.of_rd (q.i.mono l2) r2) (q.r.mono l2) (q.b.mono l2) ⟨hl.2.1, q.q.1, q.q.2.1, hl.2.2, q.q.2.2⟩, l2, s2⟩
theorem copyPS_of {t : T} (q : CopyTS t) : CopyPS t := by
  intro W w L h vs S hin
  refine (q W w L h vs S hin).mono ?_
  rintro e w1 ⟨ia, ic, ra, rc, ba, bc, vss, hn, rfl, q1, s⟩
  obtain ⟨h2, q2, _, s2⟩ := q1.whole s
  exact ⟨_, h2, rfl, q2, s2⟩

section
variable {W w : World} {L : List HP} {h : Nat → Option Obj}
theorem copiesS_of (S : Sat W w (arch h :: L)) (ts : List T) (a : Option Addr) (n c : Nat) (hn : n = ts.length) (hl : LIn h ts a 0) (hb : n ≤ 1353245080300) (ih : ∀ t ∈ ts, CopyPS t) :
    Calls Tryd.prog 41 #[.slice a n c] w fun e w' => ∃ a' c' vss hn, e = .returned (.slice a' n c') ∧ TsIn hn ts vss ∧ Sat W w' (row 35 6 a' n c' vss.flatten :: arch hn :: arch h :: L) := by
  have HN := hid hn
  have HL := hid hl
  have IH := hid ih
  have S1 : Hid (Sat W w (row 35 6 none 0 0 [] :: arch (fun _ => none) :: arch h :: L)) := hid (S.archNil.rowNil (e := 35) (size := 6))
  clear hn hl ih S
  go_enter Tryd.func41, Tryd.ntmps41
  go_wp2_with fail
  go_loopw [3, 8] (fun lv iv wr => ∃ (i : Nat) (A : Option Addr) (ca : Nat) (vss : List (List Value)) (hn : Nat → Option Obj), i ≤ n ∧ iv = .int .i64 i ∧ lv = .slice A i ca ∧ Hid (TsIn hn (ts.take i) vss) ∧ Hid (Sat W wr (row 35 6 A i ca vss.flatten :: arch hn :: arch h :: L))) (fun _ iv _ => n - (intOf iv).toNat)
  case atStart => exact ⟨0, none, 0, [], (fun _ => none), Nat.zero_le _, rfl, rfl, hid rfl, S1⟩
  case round =>
    obtain ⟨i, A, ca, vss, hn, hi, rfl, rfl, HV, S⟩ := hrel
    clear S1
    by_cases hlt : i < n
    · obtain ⟨t, ht⟩ : ∃ t, ts[i]? = some t := ⟨_, List.getElem?_eq_getElem (by have := HN.out; omega)⟩
      obtain ⟨g, off, vs, rfl, hc, hin⟩ := HL.out.get ht
      have hin0 := hin
      obtain ⟨ia, ic, ra, rc, ba, bc, rfl, _⟩ := hin.vals
      have k0 := S.out.rot3.cellIn (hc 0 _ rfl)
      have k1 := S.out.rot3.cellIn (hc 1 _ rfl)
      have k2 := S.out.rot3.cellIn (hc 2 _ rfl)
      have k3 := S.out.rot3.cellIn (hc 3 _ rfl)
      have k4 := S.out.rot3.cellIn (hc 4 _ rfl)
      have k5 := S.out.rot3.cellIn (hc 5 _ rfl)
      rw [Nat.zero_add] at k0 k1 k2 k3 k4 k5
      rw [Nat.add_zero] at k0
      have HT := hid ht
      have HC := hid (IH.out t (List.mem_of_getElem? ht) W _ _ h _ (S.out.alloc' (.cells (tVals t ia ic ra rc ba bc).toArray 35)).rot3 hin0)
      unfold tVals at HC
      clear hc hin hin0 ht
      go_wp2_with fail
      refine HC.out.mono ?_
      rintro e w1 ⟨vs', h2, rfl, ht', s2⟩
      have ht2 := ht'
      obtain ⟨ia', ic', ra', rc', ba', bc', rfl, _⟩ := ht'.vals
      obtain ⟨h3, l1, l2, s3⟩ := (s2.rot4).swap.merge
      have HV2 : Hid (TsIn h3 (ts.take (i + 1)) (vss ++ [tVals t ia' ic' ra' rc' ba' bc'])) := hid (by
        rw [List.take_add_one, HT.out]
        exact (HV.out.mono l2).snoc (TIn.mono l1 t ht2))
      have S2 := hid s3.rot3
      clear ht' ht2 s2 s3 l1 l2 S k0 k1 k2 k3 k4 k5 HV HC
      unfold tVals
      go_wp2_with (at_builtin; refine wpList_pushN rfl _ _ rfl elemT rfl S2.out (tVals t ia' ic' ra' rc' ba' bc') rfl rfl rfl (by intro v hv; simp only [tVals, List.mem_cons, List.not_mem_nil, or_false] at hv; rcases hv with rfl | rfl | rfl | rfl | rfl | rfl <;> rfl) (by unfold maxLen; omega) (by omega) ?_; intro a' c' w3 s4 ha' hz; have S4 := hid s4; clear s4 S2)
      go_roundw
      case rel => exact ⟨i + 1, a', c', _, h3, by omega, by go_num, rfl, HV2, by have := S4; rw [List.flatten_append]; simpa using this⟩
      case measure => simp [intOf]; omega
    · obtain rfl : i = n := by omega
      go_wp2_with fail
      go_ret
      have := HV.out
      rw [List.take_of_length_le (by have := HN.out; omega)] at this
      exact ⟨A, ca, vss, hn, rfl, this, S.out⟩
end
theorem copyS_step (t : T) (hok : TOk t) (ih1 : ∀ x ∈ t.is, CopyPS x) (ih2 : ∀ x ∈ t.rs, CopyPS x) : CopyTS t := by
  intro W w L h vs S hin
  obtain ⟨ia, ic, ra, rc, ba, bc, rfl, q1, q2, q3, _⟩ := hin.vals
  have HF := hid hok.fit
  obtain ⟨ni, HNI⟩ : ∃ ni, Hid (t.is.length = ni) := ⟨_, hid rfl⟩
  obtain ⟨nr, HNR⟩ : ∃ nr, Hid (t.rs.length = nr) := ⟨_, hid rfl⟩
  obtain ⟨nb, HNB⟩ : ∃ nb, Hid (t.bs.length = nb) := ⟨_, hid rfl⟩
  have b1 : ni ≤ 1353245080300 := by rw [← HNI.out]; exact HF.out.is
  have b2 : nr ≤ 1353245080300 := by rw [← HNR.out]; exact HF.out.rs
  have b3 : nb ≤ 140737488351232 := by rw [← HNB.out]; exact HF.out.bs
  unfold tVals
  rw [HNI.out, HNR.out, HNB.out]
  have S0 := hid (((S.allocAt (k := w.heap.size) (.cells #[.int .i64 t.k, .int .i64 t.n, .string t.nm, .slice ia ni ic, .slice ra nr rc, .slice ba nb bc] 35) rfl).allocAt (k := w.heap.size + 1) (.cells #[.int .i64 0, .int .i64 0, .string ⟨#[]⟩, .slice none 0 0, .slice none 0 0, .slice none 0 0] 35) (by simp)).rot3.imp (under sw2))
  have Q1 : Hid (∀ {w : World} {L : List HP}, Sat W w (arch h :: L) → Calls Tryd.prog 41 #[.slice ia ni ic] w fun e w' => ∃ a' c' vss hn, e = .returned (.slice a' ni c') ∧ TsIn hn t.is vss ∧ Sat W w' (row 35 6 a' ni c' vss.flatten :: arch hn :: arch h :: L)) := hid (fun s => copiesS_of s t.is ia ni ic HNI.out.symm q1 b1 ih1)
  have Q2 : Hid (∀ {w : World} {L : List HP}, Sat W w (arch h :: L) → Calls Tryd.prog 41 #[.slice ra nr rc] w fun e w' => ∃ a' c' hn, e = .returned (.slice a' nr c') ∧ LIn hn t.rs a' 0 ∧ (nr ≤ c' ∧ c' ≤ maxLen) ∧ Sat W w' (arch hn :: arch h :: L)) := hid (fun s => by
    refine (copiesS_of s t.rs ra nr rc HNR.out.symm q2 b2 ih2).mono ?_
    rintro e w' ⟨a', c', vss, h2, rfl, q, s2⟩
    have hl := s2.rowLen
    obtain ⟨h3, l3, r3, s3⟩ := store_row s2
    exact ⟨a', c', h3, rfl, LIn.of_rd (q.mono l3) r3, hl.2, s3⟩)
  have HQ3 := hid q3
  have S := hid S0.out.drew
  clear S0 hin q1 q2 q3 hok ih1 ih2
  go_enter Tryd.func30, Tryd.ntmps30
  go_wp2_with fail
  go_region_law (first
    | (go_simp
       go_at_call 41
       with_reducible refine (Q1.out S.out).mono ?_
       rintro e w1 ⟨a1, c1, vss1, hn1, rfl, v1, s1⟩
       have HV := hid v1
       replace S := hid s1.unrot5.unrot5
       have k3 : w1.cell? ⟨w.heap.size, 3, none⟩ = some (.slice ia ni ic) := S.out.swap.cell 3
       have k4 : w1.cell? ⟨w.heap.size, 4, none⟩ = some (.slice ra nr rc) := S.out.swap.cell 4
       have f3 := S.out.swap.free 3
       have f4 := S.out.swap.free 4
       clear v1 s1 Q1)
    | (go_simp
       go_at_call 41
       with_reducible refine (Q2.out S.out).mono ?_
       rintro e w2 ⟨a2, c2, hn2, rfl, v2, hc2, s2⟩
       have HR := hid v2
       have HC := hid hc2
       replace S := hid s2.unrot4
       have k3 : w2.cell? ⟨w.heap.size, 3, none⟩ = some (.slice ia ni ic) := S.out.swap.cell 3
       have k4 : w2.cell? ⟨w.heap.size, 4, none⟩ = some (.slice ra nr rc) := S.out.swap.cell 4
       have f3 := S.out.swap.free 3
       have f4 := S.out.swap.free 4
       clear v2 s2 hc2 Q2))
  all_goals clear k3 k4 f3 f4
  all_goals
    have S5 := hid ((S.out.swap.set 3 (.slice a1 ni c1)).set 4 (.slice a2 nr c2))
    have d5 := (S5.out.cell 5).trans (rfl : _ = some (Value.slice ba nb bc))
    have HRD := hid (S5.out.swap.archRd HQ3.out)
    go_wp2_with (at_builtin
                 refine wpList_clone_src rfl _ _ rfl elem8 rfl S5.out (u8s t.bs) rfl (by rw [length_u8s]; exact HNB.out.symm) HRD.out (one_u8s _) (by unfold maxLen; omega) (by omega) ?_
                 intro a3 c3 w5 s6 ha' hz
                 have S6 := hid s6
                 clear s6 ha' d5
                 have hl3 := S6.out.rowLen
                 obtain ⟨hn3, r3, s7⟩ := row_arch S6.out
                 have HR3 := hid r3
                 have HC3 := hid hl3.2
                 have S7 := hid s7.swap
                 clear hl3 r3 s7 S6 S5 HRD S
                 have cc5 : w5.cell? ⟨w.heap.size, 5, none⟩ = some (.slice ba nb bc) := S7.out.cell 5
                 have f5 := S7.out.free 5
                 have S8 := hid (S7.out.set 5 (.slice a3 nb c3))
                 have S9 := hid S8.out.rot4
                 have k0 : (w5.setCell ⟨w.heap.size, 5, none⟩ (.slice a3 nb c3)).cell? ⟨w.heap.size, 0, none⟩ = some (.int .i64 t.k) := S8.out.cell 0
                 have k1 : (w5.setCell ⟨w.heap.size, 5, none⟩ (.slice a3 nb c3)).cell? ⟨w.heap.size, 1, none⟩ = some (.int .i64 t.n) := S8.out.cell 1
                 have k2 : (w5.setCell ⟨w.heap.size, 5, none⟩ (.slice a3 nb c3)).cell? ⟨w.heap.size, 2, none⟩ = some (.string t.nm) := S8.out.cell 2
                 have k3 : (w5.setCell ⟨w.heap.size, 5, none⟩ (.slice a3 nb c3)).cell? ⟨w.heap.size, 3, none⟩ = some (.slice a1 ni c1) := S8.out.cell 3
                 have k4 : (w5.setCell ⟨w.heap.size, 5, none⟩ (.slice a3 nb c3)).cell? ⟨w.heap.size, 4, none⟩ = some (.slice a2 nr c2) := S8.out.cell 4
                 have k5 : (w5.setCell ⟨w.heap.size, 5, none⟩ (.slice a3 nb c3)).cell? ⟨w.heap.size, 5, none⟩ = some (.slice a3 nb c3) := S8.out.cell 5
                 have e0 : (w5.setCell ⟨w.heap.size, 5, none⟩ (.slice a3 nb c3)).cell? ⟨w.heap.size + 1, 0, none⟩ = some (.int .i64 0) := S9.out.cell 0
                 have g0 : (w5.setCell ⟨w.heap.size, 5, none⟩ (.slice a3 nb c3)).frozen? ⟨w.heap.size + 1, 0, none⟩ = false := S9.out.free 0
                 have e1 : (w5.setCell ⟨w.heap.size, 5, none⟩ (.slice a3 nb c3)).cell? ⟨w.heap.size + 1, 1, none⟩ = some (.int .i64 0) := S9.out.cell 1
                 have g1 : (w5.setCell ⟨w.heap.size, 5, none⟩ (.slice a3 nb c3)).frozen? ⟨w.heap.size + 1, 1, none⟩ = false := S9.out.free 1
                 have e2 : (w5.setCell ⟨w.heap.size, 5, none⟩ (.slice a3 nb c3)).cell? ⟨w.heap.size + 1, 2, none⟩ = some (.string ⟨#[]⟩) := S9.out.cell 2
                 have g2 : (w5.setCell ⟨w.heap.size, 5, none⟩ (.slice a3 nb c3)).frozen? ⟨w.heap.size + 1, 2, none⟩ = false := S9.out.free 2
                 have e3 : (w5.setCell ⟨w.heap.size, 5, none⟩ (.slice a3 nb c3)).cell? ⟨w.heap.size + 1, 3, none⟩ = some (.slice none 0 0) := S9.out.cell 3
                 have g3 : (w5.setCell ⟨w.heap.size, 5, none⟩ (.slice a3 nb c3)).frozen? ⟨w.heap.size + 1, 3, none⟩ = false := S9.out.free 3
                 have e4 : (w5.setCell ⟨w.heap.size, 5, none⟩ (.slice a3 nb c3)).cell? ⟨w.heap.size + 1, 4, none⟩ = some (.slice none 0 0) := S9.out.cell 4
                 have g4 : (w5.setCell ⟨w.heap.size, 5, none⟩ (.slice a3 nb c3)).frozen? ⟨w.heap.size + 1, 4, none⟩ = false := S9.out.free 4
                 have e5 : (w5.setCell ⟨w.heap.size, 5, none⟩ (.slice a3 nb c3)).cell? ⟨w.heap.size + 1, 5, none⟩ = some (.slice none 0 0) := S9.out.cell 5
                 have g5 : (w5.setCell ⟨w.heap.size, 5, none⟩ (.slice a3 nb c3)).frozen? ⟨w.heap.size + 1, 5, none⟩ = false := S9.out.free 5
                 clear S8 S7)
    have s7 := ((((((S9.out.set 0 (.int .i64 t.k)).set 1 (.int .i64 t.n)).set 2 (.string t.nm)).set 3 (.slice a1 ni c1)).set 4 (.slice a2 nr c2)).set 5 (.slice a3 nb c3)).drop.drop
    refine bodyPost_ret (v := .agg #[.int .i64 t.k, .int .i64 t.n, .string t.nm, .slice a1 ni c1, .slice a2 nr c2, .slice a3 nb c3]) (by simp [results, Tryd.results30, go_sem, e0, e1, e2, e3, e4, e5]) rfl ?_
    obtain ⟨m1, l31, l32, s8⟩ := s7.rot4.rot5.rot5.rot4.merge
    obtain ⟨m2, l41, l42, s9⟩ := s8.merge
    refine ⟨a1, c1, a2, c2, a3, c3, vss1, m2, ?_, ⟨TsIn.mono l42 HV.out, LIn.mono (l32.trans l41) HR.out, HR3.out.mono (l31.trans l41), ⟨by rw [HNR.out]; exact HC.out.1, by rw [HNB.out]; exact HC3.out.1, HC.out.2, HC3.out.2⟩⟩, ?_⟩
    · unfold tVals
      rw [HNI.out, HNR.out, HNB.out]
    · rw [HNI.out]; exact s9.swap
theorem copyTS_t (t : T) : TOk t → CopyTS t := by
  induction t using T.ind with
  | h k n nm is rs bs ih1 ih2 =>
    intro hok
    have hf := hok.fit
    exact copyS_step _ hok (fun x hx => copyPS_of (ih1 x hx (hf.si x hx))) (fun x hx => copyPS_of (ih2 x hx (hf.sr x hx)))
theorem copyPS_t (t : T) (hok : TOk t) : CopyPS t := copyPS_of (copyTS_t t hok)
#print axioms copyPS_t
end Go.Proofs.YtlgogflhjpcmlaaDoor
