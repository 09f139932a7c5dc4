/-
  THE SUPERVISOR: next, end.
-/
import Derived.Test.YtfhjoidciaidlaaSupB
namespace Go.Proofs.Ytfhjoidciaidlaa
open Go.RowKit
set_option maxHeartbeats 400000

def timeAt (ks : List Kid) (i : Nat) : Int := match ks[i]? with | some k => k.c.t | none => 0
def restAt (ks : List Kid) (i : Nat) : Int := match ks[i]? with | some k => k.c.r | none => 0
def Kid.leave (k : Kid) : Kid := { k with gone := k.gone || decide (k.c.r = 2) }
def Su.after (s : Su) : Su × List Ac := match s.th with
  | .no => (s, [])
  | .exit => (s.exit, [⟨4, 0⟩])
  | .all => (s.start 0 s.kids.length, startActs s.kids 0 s.kids.length)
  | .rest i => (s.start i s.kids.length, startActs s.kids i s.kids.length)
def Su.next (s : Su) (now : Int) : Su × List Ac := match s.rl.dropWhile (fun i => !upAt s.kids i) with
  | [] => Su.after { s with rl := [], stop := -1 }
  | i :: rest => ({ s with rl := rest, kids := s.kids.modify i Kid.leave, stop := i, since := now, killed := decide (timeAt s.kids i < 0) }, [⟨if timeAt s.kids i < 0 then 3 else 2, i⟩])
theorem modify_leave {ks : List Kid} {i : Nat} {k : Kid} (h : ks[i]? = some k) : ks.modify i Kid.leave = ks.set i k.leave := by
  refine List.ext_getElem? fun j => ?_
  rw [List.getElem?_modify, List.getElem?_set]
  have hl := List.getElem?_eq_some_iff.1 h
  obtain ⟨hl, _⟩ := hl
  by_cases q : i = j
  · subst q
    rw [h]; simp [hl]
  · simp [q]
structure Su.fit (s : Su) : Prop where
  big : s.kids.length ≤ 10000
  th : s.th ≠ .no
  rest : ∀ i, s.th = .rest i → i ≤ s.kids.length
  rl : ∀ i ∈ s.rl, i < s.kids.length
  len : s.rl.length ≤ 4611686018427387904
theorem acts_length (s : Su) (h : s.kids.length ≤ 10000) : s.after.2.length ≤ 10000 := by
  unfold Su.after
  split
  · simp
  · simp
  · exact Nat.le_trans (startActs_length _ _ _) h
  · exact Nat.le_trans (startActs_length _ _ _) h

section
variable {W w : World} {L : List HP} {h : Nat → Option Obj} {p : Nat} {s : Su}
set_option maxRecDepth 100000 in
set_option maxHeartbeats 2000000 in
theorem next_sup (S : Sat W w (sup p h s :: arch h :: L)) (F : s.fit) (now : Int) : Calls Try.prog 40 #[.pointer (some ⟨p, 0, none⟩), .int .i64 now] w fun e w' => ∃ a n c, e = .returned (.slice a n c) ∧ n = (s.next now).2.length ∧ Sat W w' (row 46 2 a n c (acVals (s.next now).2) :: sup p h (s.next now).1 :: arch h :: L) := by
  obtain ⟨big, hth, hrest, hrl, hlen⟩ := F
  obtain ⟨⟨ka, kc, na, nc, la, lc, tv⟩, ht, s'⟩ := sup_open S
  obtain ⟨strat, m, t, kids, state, notes, rl, stop, since, killed, th⟩ := s
  have c7 : w.cell? ⟨p, 7, none⟩ = some (.slice la rl.length lc) := s'.cell 7
  have S1 := hid s'
  have HT := hid ht
  have HTH := hid hth
  have HRT := hid hrest
  have HRL := hid hrl
  simp only at big hlen
  clear S s' ht hth hrest hrl
  obtain ⟨nx, HN⟩ : ∃ x, Hid (Su.next ⟨strat, m, t, kids, state, notes, rl, stop, since, killed, th⟩ now = x) := ⟨_, rfl⟩
  rw [HN.out]
  go_enter Try.func40, Try.ntmps40
  go_wp2_with fail
  clear c7
  go_loopw [5] (fun iv wr => ∃ (rk : List Nat), rk.length ≤ rl.length ∧ iv = .int .i64 ((rk.length : Int) - 1) ∧ Hid (rl.dropWhile (fun i => !upAt kids i) = rk.dropWhile (fun i => !upAt kids i)) ∧ Hid (∀ i ∈ rk, i < kids.length) ∧ Hid (Sat W wr (blk p (.cells (supCells ⟨ka, kc, na, nc, la, lc, tv⟩ ⟨strat, m, t, kids, state, notes, rk, stop, since, killed, th⟩) 67 (0, 0)) :: row 69 5 ka kids.length kc (kidVals kids) :: row 3 1 na notes.length nc (i64s notes) :: row 3 1 la rk.length lc (i64s (ints rk.reverse)) :: arch h :: L))) (fun iv _ => (intOf iv + 1).toNat)
  case atStart => exact ⟨rl, Nat.le_refl _, rfl, rfl, HRL, S1⟩
  case round =>
    obtain ⟨rk, hrk, rfl, HD, HK, S⟩ := hrel
    clear S1
    cases rk with
    | nil =>
      have c5 : wr.cell? ⟨p, 8, none⟩ = some (.int .i64 stop) := S.out.cell 8
      have f5 := S.out.free 8
      have HE : Hid (nx = Su.after ⟨strat, m, t, kids, state, notes, [], -1, since, killed, th⟩) := by
        unfold Hid
        rw [← HN.out]
        unfold Su.next
        rw [show (⟨strat, m, t, kids, state, notes, rl, stop, since, killed, th⟩ : Su).rl = rl from rfl]
        simp only [HD.out, List.dropWhile_nil]
      have s2 := (S.out.set 8 (.int .i64 (-1))).mkbun (α := SR) (p := fun R => ThenIs h p th R.tv) (A := supParts p ⟨strat, m, t, kids, state, notes, [], -1, since, killed, th⟩) ⟨ka, kc, na, nc, la, lc, tv⟩ HT.out
      have S2 : Hid (Sat W _ (sup p h ⟨strat, m, t, kids, state, notes, [], -1, since, killed, th⟩ :: arch h :: L)) := hid s2
      have c11 : (wr.setCell ⟨p, 8, none⟩ (.int .i64 (-1))).cell? ⟨p, 11, none⟩ = some tv := (S.out.set 8 (.int .i64 (-1))).cell 11
      clear s2 S HD
      cases th with
      | no => exact absurd rfl HTH.out
      | exit =>
        have ht := HT.out
        simp only [ThenIs] at ht
        subst ht
        go_wp2_with fail
        refine (exit_sup S2.out).mono ?_
        rintro e w1 ⟨a, n, c, rfl, hn, s1⟩
        have HN1 := hid hn
        have S3 := hid s1
        clear s1 S2 hn c5 c11 f5
        go_wp2_with fail
        go_ret
        rw [HE.out]
        exact ⟨_, _, _, rfl, HN1.out, S3.out⟩
      | all =>
        have ht := HT.out
        simp only [ThenIs] at ht
        obtain ⟨b, rfl, fr, hb⟩ := ht
        have HB := hid hb
        clear hb
        go_wp2_with fail
        refine (all_sup S2.out HB.out big).mono ?_
        rintro e w1 ⟨a, n, c, rfl, hn, s1⟩
        have HN1 := hid hn
        have S3 := hid s1
        clear s1 S2 hn c5 c11 f5
        go_wp2_with fail
        go_ret
        rw [HE.out]
        exact ⟨_, _, _, rfl, HN1.out, S3.out⟩
      | rest i =>
        have ht := HT.out
        simp only [ThenIs] at ht
        obtain ⟨b, b', rfl, ⟨fr, hb⟩, fr', hb'⟩ := ht
        have HB := hid hb
        have HB' := hid hb'
        clear hb hb'
        go_wp2_with fail
        refine (rest_sup S2.out HB.out HB'.out (HRT.out i rfl) big).mono ?_
        rintro e w1 ⟨a, n, c, rfl, hn, s1⟩
        have HN1 := hid hn
        have S3 := hid s1
        clear s1 S2 hn c5 c11 f5
        go_wp2_with fail
        go_ret
        rw [HE.out]
        exact ⟨_, _, _, rfl, HN1.out, S3.out⟩
    | cons i rest =>
      obtain ⟨⟨⟨cf, cr, ct⟩, up, gn⟩, hx⟩ : ∃ x, kids[i]? = some x := ⟨_, List.getElem?_eq_getElem (HK.out i (by simp))⟩
      have hik := HK.out i (by simp)
      obtain ⟨lg, lo, hla, hlc, _⟩ := (S.out.sel [3]).rowCells (by simp)
      have hlast := hlc rest.length (by simp)
      rw [show (i64s (ints (i :: rest).reverse))[rest.length]? = some (.int .i64 i) by simp [i64s, ints]] at hlast
      obtain ⟨kg, ko, hka, hkc, hkf⟩ := (S.out.sel [1]).rowCells (by omega)
      have hlcap := (S.out.sel [3]).rowLen
      obtain ⟨_, hcap, _⟩ := hlcap
      subst hla hka
      have HX := hid hx
      clear hx hlc hkc hkf
      simp only [List.length_cons] at hrk hcap
      have c4 : wr.cell? ⟨p, 4, none⟩ = some (.slice (some ⟨kg, ko, none⟩) kids.length kc) := S.out.cell 4
      have c7 : wr.cell? ⟨p, 7, none⟩ = some (.slice (some ⟨lg, lo, none⟩) (rest.length + 1) lc) := S.out.cell 7
      have f7 := S.out.free 7
      have s1 := S.out.set 7 (.slice (some ⟨lg, lo, none⟩) rest.length lc)
      have hlt : rest.length ≤ (i :: rest).length := by simp
      have htk : (i64s (ints (i :: rest).reverse)).take (rest.length * 1) = i64s (ints rest.reverse) := by
        simp [i64s, ints]
      have s2 := (s1.rot4.rowTake rest.length hlt).unrot4
      rw [htk] at s2
      have S2 := hid s2
      clear s1 s2 htk hlt S
      obtain ⟨_, _, hg, hkc, hkf⟩ := (S2.out.sel [1]).rowCells (by omega)
      cases hg
      have e2 := hkc (i * 5 + 2) (by omega)
      have e1 := hkc (i * 5 + 1) (by omega)
      have e3 := hkc (i * 5 + 3) (by omega)
      have e4 := hkc (i * 5 + 4) (by omega)
      rw [kidVals, flat_get lenKid HX.out (by omega)] at e1 e2 e3 e4
      simp only [Kid.vals, List.getElem?_cons_succ, List.getElem?_cons_zero] at e1 e2 e3 e4
      rw [← Nat.add_assoc] at e1 e2 e3 e4
      have g4 := hkf (ko + i * 5 + 4)
      have c4' : (wr.setCell ⟨p, 7, none⟩ (.slice (some ⟨lg, lo, none⟩) rest.length lc)).cell? ⟨p, 4, none⟩ = some (.slice (some ⟨kg, ko, none⟩) kids.length kc) := S2.out.cell 4
      clear hkc hkf
      cases up with
      | false =>
        go_wp2_with fail
        go_roundw
        case rel =>
          refine ⟨rest, by omega, by go_num, hid ?_, hid fun j hj => HK.out j (by simp [hj]), S2⟩
          rw [HD.out, List.dropWhile_cons]
          simp [upAt, HX.out]
        case measure => simp [intOf]
      | true =>
        have hdw : rl.dropWhile (fun i => !upAt kids i) = i :: rest := by
          rw [HD.out, List.dropWhile_cons]
          simp [upAt, HX.out]
        obtain ⟨q, HQ⟩ : ∃ q : Bool, Hid ((gn || decide (cr = 2)) = q) := ⟨_, rfl⟩
        have s3 := (S2.out.swap.rowSet (i * 5 + 4) (by omega) (.bool q)).swap
        rw [kidVals, flat_set lenKid HX.out (by omega : 4 < 5) (y := ⟨⟨cf, cr, ct⟩, true, q⟩) rfl, ← Nat.add_assoc] at s3
        have S3 := hid s3
        have HDW := hid hdw
        clear s3 hdw
        have hkl : (kids.set i ⟨⟨cf, cr, ct⟩, true, q⟩) = kids.modify i Kid.leave := by
          rw [modify_leave HX.out]
          simp only [Kid.leave]
          rw [HQ.out]
        have HKL := hid hkl
        have hq : (gn = true ∧ q = true) ∨ (gn = false ∧ (cr == 2) = q) := by
          have := HQ.out
          cases gn
          · right; exact ⟨rfl, by rw [← this]; simp [BEq.beq]⟩
          · left; exact ⟨rfl, by rw [← this]; rfl⟩
        obtain ⟨kd, HKD⟩ : ∃ kd : Bool, Hid (decide (ct < 0) = kd) := ⟨_, rfl⟩
        have c8 : World.cell? _ _ = some (.int .i64 stop) := S3.out.cell 8
        have f8 := S3.out.free 8
        have s4 := S3.out.set 8 (.int .i64 (i : Nat))
        have S4 := hid s4
        have c9 : World.cell? _ _ = some (.int .i64 since) := S4.out.cell 9
        have f9 := S4.out.free 9
        have s5 := S4.out.set 9 (.int .i64 now)
        have S5 := hid s5
        have c10 : World.cell? _ _ = some (.bool killed) := S5.out.cell 10
        have f10 := S5.out.free 10
        have s6 := S5.out.set 10 (.bool kd)
        have S6 := hid s6
        have c10' : World.cell? _ _ = some (.bool kd) := S6.out.cell 10
        clear hkl s4 s5 s6
        have HNX : Hid (nx = (⟨strat, m, t, kids.modify i Kid.leave, state, notes, rest, i, now, kd, th⟩, [⟨if kd = true then 3 else 2, i⟩])) := by
          unfold Hid
          rw [← HN.out]
          unfold Su.next
          rw [show (⟨strat, m, t, kids, state, notes, rl, stop, since, killed, th⟩ : Su).rl = rl from rfl]
          simp only [HDW.out, timeAt, HX.out, HKD.out]
          have := HKD.out
          by_cases hc : ct < 0
          · simp [hc] at this; subst this; simp [hc]
          · simp [hc] at this; subst this; simp [hc]
        have HQ' := HQ
        have hkd := HKD.out
        rcases hq with ⟨rfl, rfl⟩ | ⟨rfl, hq⟩
        all_goals cases kd
        all_goals go_wp2_with fail
        all_goals go_ret
        all_goals rw [HNX.out]
        all_goals have hl : (kids.modify i Kid.leave).length = kids.length := by simp
        · have s7 := S6.out.allocAt (k := wr.heap.size) (.cells #[.int .i64 2, .int .i64 i] 46) (by simp)
          have s8 := Sat.rowMk (size := 2) (n := 1) (c := 1) (xs := acVals [⟨2, i⟩]) s7 (off := 0) rfl (by omega) (by unfold maxLen; omega) (by simp) rfl
          have s9 := s8.unrot5
          rw [HKL.out] at s9
          refine ⟨_, _, _, rfl, rfl, Sat.swap (Sat.mkbun (α := SR) ⟨some ⟨kg, ko, none⟩, kc, na, nc, some ⟨lg, lo, none⟩, lc, tv⟩ HT.out ?_)⟩
          simp only [supParts, supCells, hl]
          exact s9
        · have s7 := S6.out.allocAt (k := wr.heap.size) (.cells #[.int .i64 3, .int .i64 i] 46) (by simp)
          have s8 := Sat.rowMk (size := 2) (n := 1) (c := 1) (xs := acVals [⟨3, i⟩]) s7 (off := 0) rfl (by omega) (by unfold maxLen; omega) (by simp) rfl
          have s9 := s8.unrot5
          rw [HKL.out] at s9
          refine ⟨_, _, _, rfl, rfl, Sat.swap (Sat.mkbun (α := SR) ⟨some ⟨kg, ko, none⟩, kc, na, nc, some ⟨lg, lo, none⟩, lc, tv⟩ HT.out ?_)⟩
          simp only [supParts, supCells, hl]
          exact s9
        · have s7 := S6.out.allocAt (k := wr.heap.size) (.cells #[.int .i64 2, .int .i64 i] 46) (by simp)
          have s8 := Sat.rowMk (size := 2) (n := 1) (c := 1) (xs := acVals [⟨2, i⟩]) s7 (off := 0) rfl (by omega) (by unfold maxLen; omega) (by simp) rfl
          have s9 := s8.unrot5
          rw [HKL.out] at s9
          refine ⟨_, _, _, rfl, rfl, Sat.swap (Sat.mkbun (α := SR) ⟨some ⟨kg, ko, none⟩, kc, na, nc, some ⟨lg, lo, none⟩, lc, tv⟩ HT.out ?_)⟩
          simp only [supParts, supCells, hl]
          exact s9
        · have s7 := S6.out.allocAt (k := wr.heap.size) (.cells #[.int .i64 3, .int .i64 i] 46) (by simp)
          have s8 := Sat.rowMk (size := 2) (n := 1) (c := 1) (xs := acVals [⟨3, i⟩]) s7 (off := 0) rfl (by omega) (by unfold maxLen; omega) (by simp) rfl
          have s9 := s8.unrot5
          rw [HKL.out] at s9
          refine ⟨_, _, _, rfl, rfl, Sat.swap (Sat.mkbun (α := SR) ⟨some ⟨kg, ko, none⟩, kc, na, nc, some ⟨lg, lo, none⟩, lc, tv⟩ HT.out ?_)⟩
          simp only [supParts, supCells, hl]
          exact s9
end
end Go.Proofs.Ytfhjoidciaidlaa
