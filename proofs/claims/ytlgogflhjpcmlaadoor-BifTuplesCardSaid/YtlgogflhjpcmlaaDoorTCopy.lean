/-
  Copies of terms (troupelaw00).
-/
import Derived.Test.YtlgogflhjpcmlaaDoorProg
import Derived.Test.YtlgogflhjpcmlaaDoorTerm
import Derived.Test.YtlgogflhjpcmlaaDoorSrcN
import Derived.WalkSpells
import Derived.Outline
namespace Go.Proofs.YtlgogflhjpcmlaaDoor
open Go.RowKit
set_option maxHeartbeats 1000000

theorem elemT : Elem Tryd.prog 31 35 6 104 := Elem.mk' Tryd.underlying31 (z := .agg #[.int .i64 0, .int .i64 0, .string ByteArray.empty, .slice none 0 0, .slice none 0 0, .slice none 0 0]) (by kernel_rfl) rfl (by decide)
theorem elem8 : Elem Tryd.prog 33 5 1 1 := Elem.mk' Tryd.underlying33 (z := .int .u8 0) (by kernel_rfl) rfl (by decide)
theorem copyBytes_any {W w : World} {L : List HP} (s : Sat W w L) (a : Option Addr) (n c : Nat) (xs : List Int) (hn : n = xs.length) (h : Rd w a (u8s xs)) (hb : n ≤ 140737488355328) :
    Calls Tryd.prog 34 #[.slice a n c] w fun e w' => ∃ a' c', e = .returned (.slice a' n c') ∧ Sat W w' (row 5 1 a' n c' (u8s xs) :: L) := by
  have hm : n ≤ maxLen := by unfold maxLen; omega
  have hnl : n = (u8s xs).length := by rw [length_u8s, hn]
  have HN := hid hnl
  clear hn hnl
  go_enter Tryd.func34, Tryd.ntmps34
  go_wp2_with (at_builtin; refine wpList_clone_src rfl _ _ rfl elem8 rfl s (u8s xs) rfl HN.out h (one_u8s xs) hm (by omega) ?_; intro a' c' w1 s1 ha' hz; have S1 := hid s1; clear s1 s h ha')
  go_ret
  exact ⟨a', c', rfl, S1.out⟩

def CopyC (t : T) : Prop := ∀ (W w : World) (L : List HP) (h : Nat → Option Obj) (vs : List Value), Sat W w (arch h :: L) → TIn h t vs →
  Calls Tryd.prog 20 #[.agg vs.toArray] w fun e w' => ∃ vs' h', e = .returned (.agg vs'.toArray) ∧ Le h h' ∧ TIn h' t vs' ∧ Sat W w' (arch h' :: L)

section
variable {W w : World} {L : List HP} {h : Nat → Option Obj}
set_option maxRecDepth 100000 in
theorem copyAll_of (S : Sat W w (arch h :: L)) (ts : List T) (a : Option Addr) (n c : Nat) (hn : n = ts.length) (hl : LIn h ts a 0) (hb : n ≤ 1353245080300) (ih : ∀ t ∈ ts, CopyC t) :
    Calls Tryd.prog 17 #[.slice a n c] w fun e w' => ∃ a' c' vss h', e = .returned (.slice a' n c') ∧ Le h h' ∧ TsIn h' ts vss ∧ Sat W w' (row 35 6 a' n c' vss.flatten :: arch h' :: L) := by
  have HN := hid hn
  have HL := hid hl
  have IH := hid ih
  have S1 := hid (S.rowNil (e := 35) (size := 6))
  clear hn hl ih S
  go_enter Tryd.func17, Tryd.ntmps17
  go_wp2_with fail
  go_loopw [3, 4] (fun lv iv wr => ∃ (i : Nat) (A : Option Addr) (ca : Nat) (vss : List (List Value)) (h' : Nat → Option Obj), i ≤ n ∧ iv = .int .i64 i ∧ lv = .slice A i ca ∧ Hid (Le h h') ∧ Hid (TsIn h' (ts.take i) vss) ∧ Hid (Sat W wr (row 35 6 A i ca vss.flatten :: arch h' :: L))) (fun _ iv _ => n - (intOf iv).toNat)
  case atStart => exact ⟨0, none, 0, [], h, Nat.zero_le _, rfl, rfl, hid (Le.refl _), hid rfl, S1⟩
  case round =>
    obtain ⟨i, A, ca, vss, h', hi, rfl, rfl, HLE, HV, S⟩ := hrel
    clear S1
    by_cases hlt : i < n
    · obtain ⟨t, ht⟩ : ∃ t, ts[i]? = some t := ⟨_, List.getElem?_eq_getElem (by have := HN.out; omega)⟩
      obtain ⟨g, off, vs, rfl, hc, hin⟩ := (HL.out.mono HLE.out).get ht
      have hin0 := hin
      obtain ⟨ia, ic, ra, rc, ba, bc, rfl, _⟩ := hin.vals
      have k0 := S.out.drop.cellIn (hc 0 _ rfl)
      have k1 := S.out.drop.cellIn (hc 1 _ rfl)
      have k2 := S.out.drop.cellIn (hc 2 _ rfl)
      have k3 := S.out.drop.cellIn (hc 3 _ rfl)
      have k4 := S.out.drop.cellIn (hc 4 _ rfl)
      have k5 := S.out.drop.cellIn (hc 5 _ rfl)
      rw [Nat.zero_add] at k0 k1 k2 k3 k4 k5
      rw [Nat.add_zero] at k0
      have HIN := hid hin0
      have HT := hid ht
      clear hc hin hin0 ht
      go_wp2_with fail
      refine (IH.out t (List.mem_of_getElem? HT.out) W wr _ h' _ S.out.swap HIN.out).mono ?_
      rintro e w1 ⟨vs', h2, rfl, le, ht', s2⟩
      have ht2 := ht'
      obtain ⟨ia', ic', ra', rc', ba', bc', rfl, _⟩ := ht'.vals
      have HLE2 := hid (HLE.out.trans le)
      have HV2 : Hid (TsIn h2 (ts.take (i + 1)) (vss ++ [tVals t ia' ic' ra' rc' ba' bc'])) := hid (by
        rw [List.take_add_one, HT.out]
        exact (HV.out.mono le).snoc ht2)
      have S2 := hid s2.swap
      clear le ht' ht2 s2 S k0 k1 k2 k3 k4 k5 HV HIN
      unfold tVals
      go_wp2_with (at_builtin; refine wpList_pushN rfl _ _ rfl elemT rfl S2.out (tVals t ia' ic' ra' rc' ba' bc') rfl rfl rfl (by intro v hv; simp only [tVals, List.mem_cons, List.not_mem_nil, or_false] at hv; rcases hv with rfl | rfl | rfl | rfl | rfl | rfl <;> rfl) (by unfold maxLen; omega) (by omega) ?_; intro a' c' w3 s4 ha' hz; have S4 := hid s4; clear s4 S2)
      go_roundw
      case rel => exact ⟨i + 1, a', c', _, h2, by omega, by go_num, rfl, HLE2, HV2, by have := S4; rw [List.flatten_append]; simpa using this⟩
      case measure => simp [intOf]; omega
    · obtain rfl : i = n := by omega
      go_wp2_with fail
      go_ret
      have := HV.out
      rw [List.take_of_length_le (by have := HN.out; omega)] at this
      exact ⟨A, ca, vss, h', rfl, HLE.out, this, S.out⟩
end
theorem sat_free {W w : World} {L : List HP} {b : Nat} {c : Array Value} {t : TypeId} (s : Sat W w (blk b (.cells c t (0, 0)) :: L)) (i : Nat) : w.frozen? ⟨b, i, none⟩ = false := s.free i
set_option maxRecDepth 100000 in
theorem copy_step (t : T) (hok : TOk t) (ih1 : ∀ x ∈ t.is, CopyC x) (ih2 : ∀ x ∈ t.rs, CopyC x) : CopyC t := by
  intro W w L h vs S hin
  obtain ⟨ia, ic, ra, rc, ba, bc, rfl, q1, q2, q3, _⟩ := hin.vals
  have HF := hid hok.fit
  obtain ⟨ni, HNI⟩ : ∃ ni, Hid (t.is.length = ni) := ⟨_, hid rfl⟩
  obtain ⟨nr, HNR⟩ : ∃ nr, Hid (t.rs.length = nr) := ⟨_, hid rfl⟩
  obtain ⟨nb, HNB⟩ : ∃ nb, Hid (t.bs.length = nb) := ⟨_, hid rfl⟩
  have b1 : ni ≤ 1353245080300 := by rw [← HNI.out]; exact HF.out.is
  have b2 : nr ≤ 1353245080300 := by rw [← HNR.out]; exact HF.out.rs
  have b3 : nb ≤ 140737488351232 := by rw [← HNB.out]; exact HF.out.bs
  unfold tVals
  rw [HNI.out, HNR.out, HNB.out]
  have S1 := hid (((S.allocAt (k := w.heap.size) (.cells #[.int .i64 t.k, .int .i64 t.n, .string t.nm, .slice ia ni ic, .slice ra nr rc, .slice ba nb bc] 35) rfl).allocAt (k := w.heap.size + 1) (.cells #[.int .i64 0, .int .i64 0, .string ByteArray.empty, .slice none 0 0, .slice none 0 0, .slice none 0 0] 35) (by simp)).rot3)
  obtain ⟨p1, HP1⟩ : ∃ p, Hid (w.heap.size = p) := ⟨_, hid rfl⟩
  have HQ1 := hid q1
  have HQ2 := hid q2
  have HQ3 := hid q3
  have IH1 := hid ih1
  have IH2 := hid ih2
  clear S hin q1 q2 q3 hok ih1 ih2
  go_enter Tryd.func20, Tryd.ntmps20
  go_wp2_with fail
  rw [HP1.out] at S1 ⊢
  refine (copyAll_of S1.out t.is ia ni ic HNI.out.symm HQ1.out b1 IH1.out).mono ?_
  rintro e w1 ⟨a1, c1, vss1, h1, rfl, le1, ht1, s1⟩
  have hl1 := s1.rowLen
  obtain ⟨h1', le1', r1, s1'⟩ := store_row s1
  have HA1 := hid (LIn.of_rd (ht1.mono le1') r1)
  have HC1 := hid (And.intro hl1.2.1 hl1.2.2)
  have HL1 := hid (le1.trans le1')
  have S2 := hid s1'
  have c3 : w1.cell? ⟨p1, 3, none⟩ = some (.slice ia ni ic) := S2.out.rot3.cell 3
  have f3 := S2.out.rot3.free 3
  have S2b := hid (S2.out.rot3.set 3 (.slice a1 ni c1))
  have d4 : (w1.setCell ⟨p1, 3, none⟩ (.slice a1 ni c1)).cell? ⟨p1, 4, none⟩ = some (.slice ra nr rc) := S2b.out.cell 4
  clear le1 ht1 s1 hl1 le1' r1 s1' S1 S2
  go_wp2_with fail
  refine (copyAll_of (S2b.out.swap) t.rs ra nr rc HNR.out.symm (HQ2.out.mono HL1.out) b2 IH2.out).mono ?_
  rintro e w2 ⟨a2, c2, vss2, h2, rfl, le2, ht2, s2⟩
  have hl2 := s2.rowLen
  obtain ⟨h2', le2', r2, s2'⟩ := store_row s2
  have HA2 := hid (LIn.of_rd (ht2.mono le2') r2)
  have HA1' := hid (HA1.out.mono (le2.trans le2'))
  have HC2 := hid (And.intro hl2.2.1 hl2.2.2)
  have HL2 := hid (HL1.out.trans (le2.trans le2'))
  have S3 := hid s2'
  have c4 : w2.cell? ⟨p1, 4, none⟩ = some (.slice ra nr rc) := S3.out.swap.cell 4
  have f4 := S3.out.swap.free 4
  have S3b := hid (S3.out.swap.set 4 (.slice a2 nr c2))
  have d5 : (w2.setCell ⟨p1, 4, none⟩ (.slice a2 nr c2)).cell? ⟨p1, 5, none⟩ = some (.slice ba nb bc) := S3b.out.cell 5
  clear le2 ht2 s2 hl2 le2' r2 s2' S2b S3 c3 f3 d4 HA1 HL1
  go_wp2_with fail
  refine (copyBytes_any S3b.out ba nb bc t.bs HNB.out.symm (S3b.out.swap.archRd (HQ3.out.mono HL2.out)) (by omega)).mono ?_
  rintro e w3 ⟨a3, c3, rfl, s3⟩
  have hl3 := s3.rowLen
  obtain ⟨h3', le3', r3, s3'⟩ := store_row s3.rot3.swap
  have HA1'' := hid (HA1'.out.mono le3')
  have HA2' := hid (HA2.out.mono le3')
  have HR3 := hid r3
  have HC3 := hid (And.intro hl3.2.1 hl3.2.2)
  have HL3 := hid (HL2.out.trans le3')
  have S4 := hid s3'
  have g5 : w3.cell? ⟨p1, 5, none⟩ = some (.slice ba nb bc) := S4.out.swap.cell 5
  have f5 := S4.out.swap.free 5
  have S5 := hid (S4.out.swap.set 5 (.slice a3 nb c3))
  have S6 := hid S5.out.rot3
  have k0 : (w3.setCell ⟨p1, 5, none⟩ (.slice a3 nb c3)).cell? ⟨p1, 0, none⟩ = some (.int .i64 t.k) := S5.out.cell 0
  have k1 : (w3.setCell ⟨p1, 5, none⟩ (.slice a3 nb c3)).cell? ⟨p1, 1, none⟩ = some (.int .i64 t.n) := S5.out.cell 1
  have k2 : (w3.setCell ⟨p1, 5, none⟩ (.slice a3 nb c3)).cell? ⟨p1, 2, none⟩ = some (.string t.nm) := S5.out.cell 2
  have k3 : (w3.setCell ⟨p1, 5, none⟩ (.slice a3 nb c3)).cell? ⟨p1, 3, none⟩ = some (.slice a1 ni c1) := S5.out.cell 3
  have k4 : (w3.setCell ⟨p1, 5, none⟩ (.slice a3 nb c3)).cell? ⟨p1, 4, none⟩ = some (.slice a2 nr c2) := S5.out.cell 4
  have k5 : (w3.setCell ⟨p1, 5, none⟩ (.slice a3 nb c3)).cell? ⟨p1, 5, none⟩ = some (.slice a3 nb c3) := S5.out.cell 5
  have e0 : (w3.setCell ⟨p1, 5, none⟩ (.slice a3 nb c3)).cell? ⟨p1 + 1, 0, none⟩ = some (.int .i64 0) := S6.out.cell 0
  have e1 : (w3.setCell ⟨p1, 5, none⟩ (.slice a3 nb c3)).cell? ⟨p1 + 1, 1, none⟩ = some (.int .i64 0) := S6.out.cell 1
  have e2 : (w3.setCell ⟨p1, 5, none⟩ (.slice a3 nb c3)).cell? ⟨p1 + 1, 2, none⟩ = some (.string ByteArray.empty) := S6.out.cell 2
  have e3 : (w3.setCell ⟨p1, 5, none⟩ (.slice a3 nb c3)).cell? ⟨p1 + 1, 3, none⟩ = some (.slice none 0 0) := S6.out.cell 3
  have e4 : (w3.setCell ⟨p1, 5, none⟩ (.slice a3 nb c3)).cell? ⟨p1 + 1, 4, none⟩ = some (.slice none 0 0) := S6.out.cell 4
  have e5 : (w3.setCell ⟨p1, 5, none⟩ (.slice a3 nb c3)).cell? ⟨p1 + 1, 5, none⟩ = some (.slice none 0 0) := S6.out.cell 5
  have g0' : (w3.setCell ⟨p1, 5, none⟩ (.slice a3 nb c3)).frozen? ⟨p1 + 1, 0, none⟩ = false := S6.out.free 0
  have g1' : (w3.setCell ⟨p1, 5, none⟩ (.slice a3 nb c3)).frozen? ⟨p1 + 1, 1, none⟩ = false := S6.out.free 1
  have g2' : (w3.setCell ⟨p1, 5, none⟩ (.slice a3 nb c3)).frozen? ⟨p1 + 1, 2, none⟩ = false := S6.out.free 2
  have g3' : (w3.setCell ⟨p1, 5, none⟩ (.slice a3 nb c3)).frozen? ⟨p1 + 1, 3, none⟩ = false := S6.out.free 3
  have g4' : (w3.setCell ⟨p1, 5, none⟩ (.slice a3 nb c3)).frozen? ⟨p1 + 1, 4, none⟩ = false := S6.out.free 4
  have g5' : (w3.setCell ⟨p1, 5, none⟩ (.slice a3 nb c3)).frozen? ⟨p1 + 1, 5, none⟩ = false := S6.out.free 5
  clear hl3 le3' r3 s3' s3 S3b c4 f4 d5 HA1' HA2 HL2 S4
  go_wp2_with fail
  have s7 := ((((((S6.out.set 0 (.int .i64 t.k)).set 1 (.int .i64 t.n)).set 2 (.string t.nm)).set 3 (.slice a1 ni c1)).set 4 (.slice a2 nr c2)).set 5 (.slice a3 nb c3)).drop.drop
  refine bodyPost_ret (v := .agg #[.int .i64 t.k, .int .i64 t.n, .string t.nm, .slice a1 ni c1, .slice a2 nr c2, .slice a3 nb c3]) (by simp [results, Tryd.results20, go_sem, e0, e1, e2, e3, e4, e5]) rfl ⟨tVals t a1 c1 a2 c2 a3 c3, h3', ?_, HL3.out, ?_, s7⟩
  · unfold tVals
    rw [HNI.out, HNR.out, HNB.out]
  · exact TIn.of HA1''.out HA2'.out HR3.out ⟨by rw [HNI.out]; exact HC1.out.1, by rw [HNR.out]; exact HC2.out.1, by rw [HNB.out]; exact HC3.out.1, HC1.out.2, HC2.out.2, HC3.out.2⟩
theorem copy_t (t : T) : TOk t → CopyC t := by
  induction t using T.ind with
  | h k n nm is rs bs ih1 ih2 =>
    intro hok
    have hf := hok.fit
    exact copy_step _ hok (fun x hx => ih1 x hx (hf.si x hx)) (fun x hx => ih2 x hx (hf.sr x hx))
#print axioms copy_t
end Go.Proofs.YtlgogflhjpcmlaaDoor
