/-
  TreeAtoms: the law's own walk. (Written by wip/gen/gen_lawatoms.py.)
-/
import Derived.Test.YteaabbghnfideaaDoorLawRound
import Derived.Deep.RegionHeld3
namespace Go.Proofs.YteaabbghnfideaaDoor
open Go.RowKit
set_option maxHeartbeats 4000000
set_option maxRecDepth 100000

def tB (s : ByteArray) : T := .mk 2 0 s [] [] []
def tBL (s : ByteArray) : T := .mk 7 0 ⟨#[]⟩ [tB s] [tB s] []
def tBT (s : ByteArray) : T := .mk 5 0 ⟨#[]⟩ [tB s, tBL s] [] []
theorem in_B (h : Nat → Option Obj) (s : ByteArray) : TIn h (tB s) [.int .i64 2, .int .i64 0, .string s, .slice none 0 0, .slice none 0 0, .slice none 0 0] :=
  TIn.of (t := tB s) (ia := none) (ra := none) (ba := none) (ic := 0) (rc := 0) (bc := 0) (LIn.nil _ _) (LIn.nil _ _) (RdIn.nil _ _) (by simp [tB, T.is, T.rs, T.bs, maxLen])
theorem ok_B {s : ByteArray} (h : s.size ≤ 140737488351232) : TOk (tB s) := by
  simp [TOk, LOk, tB, fits]
  exact h
theorem flds_B (s : ByteArray) : flds (tB s) = decide (1 ≤ s.size ∧ s.size ≤ 255) := by
  show decide ((0 : Int) = 0 ∧ 1 ≤ s.size ∧ s.size ≤ 255 ∧ 0 + 0 + 0 = 0) = _
  simp
theorem chk_B {s : ByteArray} (hs : 1 ≤ s.size ∧ s.size ≤ 255) {d p b : Nat} (hd : d ≤ 200) (hp : p + 1 + b ≤ 65536) : chk d (tB s) p b = ((p + 1, b), none) := by
  have h0 : chk0 d (tB s) p b = none := by
    unfold chk0
    have ha : addB (tB s) = 0 := rfl
    rw [ha, if_neg (by omega), flds_B, decide_eq_true hs, if_neg (by simp)]
  rw [chk_eq, h0]
  rfl
theorem right_B {s : ByteArray} (hs : 1 ≤ s.size ∧ s.size ≤ 255) : rightOf (tB s) = none := by
  unfold rightOf; rw [chk_B hs (by omega) (by omega)]
theorem wrong_B {s : ByteArray} (hs : ¬ (1 ≤ s.size ∧ s.size ≤ 255)) : rightOf (tB s) = some (0, 1) := by
  have h0 : chk0 1 (tB s) 0 0 = some (0, 1) := by
    unfold chk0
    have ha : addB (tB s) = 0 := rfl
    rw [ha, if_neg (by omega), flds_B, decide_eq_false hs, if_pos rfl]
  unfold rightOf
  rw [chk_eq, h0]
theorem chk_BL {s : ByteArray} (hs : 1 ≤ s.size ∧ s.size ≤ 255) : chk 2 (tBL s) 2 0 = ((5, 0), none) := by
  have hf : flds (tBL s) = true := by
    show decide (1 ≠ 0 ∧ 1 ≤ 1 ∧ (1 = 1 → (2 : Int) ≠ 7 ∧ (2 : Int) ≠ 6) ∧ (0 : Int) = 0 ∧ (⟨#[]⟩ : ByteArray).size = 0 ∧ 0 = 0) = true
    decide
  have h0 : chk0 2 (tBL s) 2 0 = none := by
    unfold chk0
    have ha : addB (tBL s) = 0 := rfl
    rw [ha, if_neg (by omega), hf, if_neg (by simp)]
  have e1 : chk 3 (tB s) (2 + 1) 0 = ((4, 0), none) := chk_B hs (by omega) (by omega)
  have e2 : chk 3 (tB s) 4 0 = ((5, 0), none) := chk_B hs (by omega) (by omega)
  rw [chk_eq, h0]
  show (match chkL 3 [tB s] (2 + 1) (0 + 0) with | (s, some e) => (s, some e) | (s', none) => chkL 3 [tB s] s'.1 s'.2) = _
  simp only [chkL, Nat.add_zero, e1, e2]
theorem right_BT {s : ByteArray} (hs : 1 ≤ s.size ∧ s.size ≤ 255) : rightOf (tBT s) = none := by
  have hf : flds (tBT s) = true := by
    show decide ((0 : Int) = 0 ∧ (⟨#[]⟩ : ByteArray).size = 0 ∧ 0 + 0 = 0) = true
    decide
  have h0 : chk0 1 (tBT s) 0 0 = none := by
    unfold chk0
    have ha : addB (tBT s) = 0 := rfl
    rw [ha, if_neg (by omega), hf, if_neg (by simp)]
  have e1 : chk 2 (tB s) (0 + 1) 0 = ((2, 0), none) := chk_B hs (by omega) (by omega)
  have e2 := chk_BL hs
  unfold rightOf
  rw [chk_eq, h0]
  show (match chkL 2 [tB s, tBL s] (0 + 1) (0 + 0) with | (s, some e) => (s, some e) | (s', none) => chkL 2 [] s'.1 s'.2).2 = _
  simp only [chkL, Nat.add_zero, e1, e2]
theorem ok_BT {s : ByteArray} (hs : s.size ≤ 255) : TOk (tBT s) := by
  have h1 : (⟨#[]⟩ : ByteArray).size = 0 := rfl
  simp [TOk, LOk, tBT, tBL, tB, fits, h1]
  omega
theorem byts_app (a b : ByteArray) : byts (a ++ b) = byts a ++ byts b := by simp [byts]
theorem txt_BT {s q : ByteArray} (h : byts q = txt (tB s)) : byts (((((((⟨#[123]⟩ : ByteArray) ++ q) ++ ⟨#[44, 91]⟩) ++ q) ++ ⟨#[124]⟩) ++ q) ++ ⟨#[93, 125]⟩) = txt (tBT s) := by
  have e0 : txt (tB s) = nameT s := rfl
  have e1 : txt (tBT s) = [123] ++ (nameT s ++ 44 :: (([91] ++ nameT s ++ (124 :: nameT s) ++ [93]) ++ [])) ++ [125] := by
    simp [tBT, tBL, tB, txt, txtL, txtM, txtR]
  rw [e0] at h
  simp only [byts_app, h, e1]
  have b1 : byts ⟨#[123]⟩ = [123] := rfl
  have b2 : byts ⟨#[44, 91]⟩ = [44, 91] := rfl
  have b3 : byts ⟨#[124]⟩ = [124] := rfl
  have b4 : byts ⟨#[93, 125]⟩ = [93, 125] := rfl
  simp [b1, b2, b3, b4]
theorem size_q {s q : ByteArray} (h : byts q = txt (tB s)) (hs : s.size ≤ 255) : q.size ≤ 1100 := by
  have e0 : txt (tB s) = nameT s := rfl
  have := name_len s
  rw [← byts_len, h, e0]
  omega
theorem atoms_walk {W : World} (s : ByteArray) (hs : s.size ≤ 140737488351232) (hT : Tab (heapOf W)) :
    Calls Tryd.prog 13 #[.string s] W fun e w' => e = .returned (.bool true) ∧ Below W.heap.size W w' := by
  have S0 := hid ((Sat.startArch W).allocAt (k := W.heap.size) (.cells #[.int .i64 2, .int .i64 0, .string s, .slice none 0 0, .slice none 0 0, .slice none 0 0] 25) rfl).swap
  have HWR := hid (write_any hT S0.out (tB s) _ (in_B _ s) (ok_B hs))
  clear hT
  by_cases hr : 1 ≤ s.size ∧ s.size ≤ 255
  · have hne : s.toList.isEmpty = false := (size1 (by omega)).1
    have hgt : decide ((s.size : Int) > 255) = false := by simp; omega
    have hgt2 : ¬ (s.size : Int) > 255 := by omega
    go_enter Tryd.func13, Tryd.ntmps13
    go_wp2_with fail
    refine HWR.out.mono ?_
    rintro e w2 ⟨sv, ev, h2, rfl, l2, hw, s2⟩
    unfold WOf at hw
    rw [right_B hr] at hw
    obtain ⟨rfl, q, rfl, hq⟩ := hw
    have L2 := hid l2
    have HQ := hid hq
    have hqs := size_q hq hr.2
    have hps := parse_start s2 (by omega : q.size ≤ 4294967296)
    rw [parsF_txt hq (ok_B hs) (right_B hr)] at hps
    have HPS := hid hps
    clear hq l2 s2 HWR hps S0
    go_wp2_with fail
    refine HPS.out.mono ?_
    rintro e w3 hp
    obtain ⟨ia3, ic3, ra3, rc3, ba3, bc3, h3, rfl, l3, q3, _, _, s3⟩ := hp
    have L3 := hid (L2.out.trans l3)
    have Q3 := hid q3
    have S4 := hid (s3.allocAt (k := w3.heap.size) (.cells #[.int .i64 2, .int .i64 0, .string s, .slice ia3 0 ic3, .slice ra3 0 rc3, .slice ba3 0 bc3] 25) rfl)
    have z1 : ((⟨#[123]⟩ : ByteArray) ++ q).size ≤ 1101 := by rw [ByteArray.size_append]; show 1 + q.size ≤ _; omega
    have hps := parse_start S4.out.swap (s := (((((((⟨#[123]⟩ : ByteArray) ++ q) ++ ⟨#[44, 91]⟩) ++ q) ++ ⟨#[124]⟩) ++ q) ++ ⟨#[93, 125]⟩)) (by
      rw [← byts_len, txt_BT HQ.out, ← txt_BT HQ.out]
      simp only [byts_app, List.length_append, byts_len]
      show 1 + q.size + 2 + q.size + 1 + q.size + 2 ≤ _
      omega)
    rw [parsF_txt (txt_BT HQ.out) (ok_BT hr.2) (right_BT hr)] at hps
    have HPS2 := hid hps
    unfold tv6
    have e1 : (tB s).k = 2 := rfl
    have e2 : (tB s).n = 0 := rfl
    have e3 : (tB s).nm = s := rfl
    have e4 : (tB s).is.length = 0 := rfl
    have e5 : (tB s).rs.length = 0 := rfl
    have e6 : (tB s).bs.length = 0 := rfl
    rw [e1, e2, e3, e4, e5, e6]
    clear l3 q3 s3 HPS L2 e1 e2 e3 e4 e5 e6 hps
    go_wp2_with fail
    refine HPS2.out.mono ?_
    rintro e w4 hp
    obtain ⟨iaT, icT, raT, rcT, baT, bcT, h4, rfl, l4, q4, _, _, s4⟩ := hp
    have L4 := hid (L3.out.trans l4)
    obtain ⟨g, off, vs0, rfl, hc0, hi0⟩ := (show LIn h4 [tB s, tBL s] iaT 0 by
      obtain ⟨_, _, _, _, _, _, e, q1, _⟩ := q4.vals
      simp only [tv6, tVals, List.cons.injEq, Value.slice.injEq] at e
      rw [e.2.2.2.1.1]; exact q1).get (j := 0) (t := tB s) rfl
    obtain ⟨g', off', vs1, hgg, hc1, hi1⟩ := (show LIn h4 [tB s, tBL s] (some ⟨g, off, none⟩) 0 by
      obtain ⟨_, _, _, _, _, _, e, q1, _⟩ := q4.vals
      simp only [tv6, tVals, List.cons.injEq, Value.slice.injEq] at e
      rw [e.2.2.2.1.1]; exact q1).get (j := 1) (t := tBL s) rfl
    cases hgg
    obtain ⟨ia0, ic0, ra0, rc0, ba0, bc0, rfl, _⟩ := id hi0.vals
    obtain ⟨iaL, icL, raL, rcL, baL, bcL, rfl, _, hlR, _⟩ := id hi1.vals
    obtain ⟨g2, off2, vsR, rfl, hcR, hiR⟩ := LIn.get (j := 0) (t := tB s) hlR rfl
    obtain ⟨iaR, icR, raR, rcR, baR, bcR, rfl, _⟩ := id hiR.vals
    have HI00 : Hid (cellIn h4 g (off) = some (.int .i64 2)) := hid (by have := hc0 0 _ rfl; rw [show off + (0 + 0) * 6 + 0 = off by omega] at this; exact this)
    have HI01 : Hid (cellIn h4 g (off + 1) = some (.int .i64 0)) := hid (by have := hc0 1 _ rfl; rw [show off + (0 + 0) * 6 + 1 = off + 1 by omega] at this; exact this)
    have HI02 : Hid (cellIn h4 g (off + 2) = some (.string s)) := hid (by have := hc0 2 _ rfl; rw [show off + (0 + 0) * 6 + 2 = off + 2 by omega] at this; exact this)
    have HI03 : Hid (cellIn h4 g (off + 3) = some (.slice ia0 0 ic0)) := hid (by have := hc0 3 _ rfl; rw [show off + (0 + 0) * 6 + 3 = off + 3 by omega] at this; exact this)
    have HI04 : Hid (cellIn h4 g (off + 4) = some (.slice ra0 0 rc0)) := hid (by have := hc0 4 _ rfl; rw [show off + (0 + 0) * 6 + 4 = off + 4 by omega] at this; exact this)
    have HI05 : Hid (cellIn h4 g (off + 5) = some (.slice ba0 0 bc0)) := hid (by have := hc0 5 _ rfl; rw [show off + (0 + 0) * 6 + 5 = off + 5 by omega] at this; exact this)
    have HI14 : Hid (cellIn h4 g (off + 6 + 4) = some (.slice (some ⟨g2, off2, none⟩) 1 rcL)) := hid (by have := hc1 4 _ rfl; rw [show off + (0 + 1) * 6 + 4 = off + 6 + 4 by omega] at this; exact this)
    have HR00 : Hid (cellIn h4 g2 (off2) = some (.int .i64 2)) := hid (by have := hcR 0 _ rfl; rw [show off2 + (0 + 0) * 6 + 0 = off2 by omega] at this; exact this)
    have HR01 : Hid (cellIn h4 g2 (off2 + 1) = some (.int .i64 0)) := hid (by have := hcR 1 _ rfl; rw [show off2 + (0 + 0) * 6 + 1 = off2 + 1 by omega] at this; exact this)
    have HR02 : Hid (cellIn h4 g2 (off2 + 2) = some (.string s)) := hid (by have := hcR 2 _ rfl; rw [show off2 + (0 + 0) * 6 + 2 = off2 + 2 by omega] at this; exact this)
    have HR03 : Hid (cellIn h4 g2 (off2 + 3) = some (.slice iaR 0 icR)) := hid (by have := hcR 3 _ rfl; rw [show off2 + (0 + 0) * 6 + 3 = off2 + 3 by omega] at this; exact this)
    have HR04 : Hid (cellIn h4 g2 (off2 + 4) = some (.slice raR 0 rcR)) := hid (by have := hcR 4 _ rfl; rw [show off2 + (0 + 0) * 6 + 4 = off2 + 4 by omega] at this; exact this)
    have HR05 : Hid (cellIn h4 g2 (off2 + 5) = some (.slice baR 0 bcR)) := hid (by have := hcR 5 _ rfl; rw [show off2 + (0 + 0) * 6 + 5 = off2 + 5 by omega] at this; exact this)
    have QI : Hid (TIn h4 (tB s) [.int .i64 2, .int .i64 0, .string s, .slice ia0 0 ic0, .slice ra0 0 rc0, .slice ba0 0 bc0]) := hid hi0
    have QR : Hid (TIn h4 (tB s) [.int .i64 2, .int .i64 0, .string s, .slice iaR 0 icR, .slice raR 0 rcR, .slice baR 0 bcR]) := hid hiR
    have Q3' : Hid (TIn h4 (tB s) [.int .i64 2, .int .i64 0, .string s, .slice ia3 0 ic3, .slice ra3 0 rc3, .slice ba3 0 bc3]) := hid (TIn.mono l4 _ Q3.out)
    obtain ⟨b6, HB6⟩ : ∃ b, Hid (w3.heap.size = b) := ⟨_, hid rfl⟩
    obtain ⟨b8, HB8⟩ : ∃ b, Hid (w4.heap.size = b) := ⟨_, hid rfl⟩
    have S5 : Hid (Sat W _ (arch h4 :: blk W.heap.size (.cells #[.int .i64 2, .int .i64 0, .string s, .slice none 0 0, .slice none 0 0, .slice none 0 0] 25 (0, 0)) :: blk b6 (.cells #[.int .i64 2, .int .i64 0, .string s, .slice ia3 0 ic3, .slice ra3 0 rc3, .slice ba3 0 bc3] 25 (0, 0)) :: blk b8 (.cells #[.int .i64 5, .int .i64 0, .string ⟨#[]⟩, .slice (some ⟨g, off, none⟩) 2 icT, .slice raT 0 rcT, .slice baT 0 bcT] 25 (0, 0)) :: [])) := hid (by
      have := (s4.allocAt (k := w4.heap.size) (.cells #[.int .i64 5, .int .i64 0, .string ⟨#[]⟩, .slice (some ⟨g, off, none⟩) 2 icT, .slice raT 0 rcT, .slice baT 0 bcT] 25) rfl)
      rw [HB6.out, HB8.out] at this
      exact this.sel [1, 3, 2, 0])
    have HS1 := hid (same_t (tB s) (ok_B hs) W _ _ h4 _ _ S5.out.drew Q3'.out (in_B _ s))
    have HF : Hid (∀ (w' : World) (h' : Nat → Option Obj), Le h4 h' → Sat W w' (arch h' :: blk W.heap.size (.cells #[.int .i64 2, .int .i64 0, .string s, .slice none 0 0, .slice none 0 0, .slice none 0 0] 25 (0, 0)) :: blk b6 (.cells #[.int .i64 2, .int .i64 0, .string s, .slice ia3 0 ic3, .slice ra3 0 rc3, .slice ba3 0 bc3] 25 (0, 0)) :: blk b8 (.cells #[.int .i64 5, .int .i64 0, .string ⟨#[]⟩, .slice (some ⟨g, off, none⟩) 2 icT, .slice raT 0 rcT, .slice baT 0 bcT] 25 (0, 0)) :: []) → World.cell? w' ⟨W.heap.size, 0, none⟩ = some (.int .i64 2) ∧ World.cell? w' ⟨W.heap.size, 1, none⟩ = some (.int .i64 0) ∧ World.cell? w' ⟨W.heap.size, 2, none⟩ = some (.string s) ∧ World.cell? w' ⟨W.heap.size, 3, none⟩ = some (.slice none 0 0) ∧ World.cell? w' ⟨W.heap.size, 4, none⟩ = some (.slice none 0 0) ∧ World.cell? w' ⟨W.heap.size, 5, none⟩ = some (.slice none 0 0) ∧ World.cell? w' ⟨b6, 0, none⟩ = some (.int .i64 2) ∧ World.cell? w' ⟨b6, 1, none⟩ = some (.int .i64 0) ∧ World.cell? w' ⟨b6, 2, none⟩ = some (.string s) ∧ World.cell? w' ⟨b6, 3, none⟩ = some (.slice ia3 0 ic3) ∧ World.cell? w' ⟨b6, 4, none⟩ = some (.slice ra3 0 rc3) ∧ World.cell? w' ⟨b6, 5, none⟩ = some (.slice ba3 0 bc3) ∧ World.cell? w' ⟨b8, 3, none⟩ = some (.slice (some ⟨g, off, none⟩) 2 icT) ∧ World.cell? w' ⟨g, off, none⟩ = some (.int .i64 2) ∧ World.cell? w' ⟨g, off + 1, none⟩ = some (.int .i64 0) ∧ World.cell? w' ⟨g, off + 2, none⟩ = some (.string s) ∧ World.cell? w' ⟨g, off + 3, none⟩ = some (.slice ia0 0 ic0) ∧ World.cell? w' ⟨g, off + 4, none⟩ = some (.slice ra0 0 rc0) ∧ World.cell? w' ⟨g, off + 5, none⟩ = some (.slice ba0 0 bc0) ∧ World.cell? w' ⟨g, off + 6 + 4, none⟩ = some (.slice (some ⟨g2, off2, none⟩) 1 rcL) ∧ World.cell? w' ⟨g, off + 10, none⟩ = some (.slice (some ⟨g2, off2, none⟩) 1 rcL) ∧ World.cell? w' ⟨g2, off2, none⟩ = some (.int .i64 2) ∧ World.cell? w' ⟨g2, off2 + 1, none⟩ = some (.int .i64 0) ∧ World.cell? w' ⟨g2, off2 + 2, none⟩ = some (.string s) ∧ World.cell? w' ⟨g2, off2 + 3, none⟩ = some (.slice iaR 0 icR) ∧ World.cell? w' ⟨g2, off2 + 4, none⟩ = some (.slice raR 0 rcR) ∧ World.cell? w' ⟨g2, off2 + 5, none⟩ = some (.slice baR 0 bcR)) := hid (fun w' h' l x => ⟨(x.swap.cell 0).trans rfl, (x.swap.cell 1).trans rfl, (x.swap.cell 2).trans rfl, (x.swap.cell 3).trans rfl, (x.swap.cell 4).trans rfl, (x.swap.cell 5).trans rfl, (x.rot3.cell 0).trans rfl, (x.rot3.cell 1).trans rfl, (x.rot3.cell 2).trans rfl, (x.rot3.cell 3).trans rfl, (x.rot3.cell 4).trans rfl, (x.rot3.cell 5).trans rfl, (x.rot4.cell 3).trans rfl, x.cellIn (cellIn_mono l HI00.out), x.cellIn (cellIn_mono l HI01.out), x.cellIn (cellIn_mono l HI02.out), x.cellIn (cellIn_mono l HI03.out), x.cellIn (cellIn_mono l HI04.out), x.cellIn (cellIn_mono l HI05.out), x.cellIn (cellIn_mono l HI14.out), x.cellIn (cellIn_mono l HI14.out), x.cellIn (cellIn_mono l HR00.out), x.cellIn (cellIn_mono l HR01.out), x.cellIn (cellIn_mono l HR02.out), x.cellIn (cellIn_mono l HR03.out), x.cellIn (cellIn_mono l HR04.out), x.cellIn (cellIn_mono l HR05.out)⟩)
    have SL := hid (Le.refl h4)
    have SS := hid S5.out.drew
    unfold tv6
    rw [show (tBT s).k = 5 from rfl, show (tBT s).n = 0 from rfl, show (tBT s).nm = ⟨#[]⟩ from rfl, show (tBT s).is.length = 2 from rfl, show (tBT s).rs.length = 0 from rfl, show (tBT s).bs.length = 0 from rfl]
    have HL4 := hid L4.out
    have HHS := hid hs
    clear hc0 hc1 hcR hi0 hi1 hiR hlR q4 l4 s4 HPS2 S4 Q3 L3 L4 S5 hs hr hne hgt hgt2 hqs z1
    go_upto_region 7 with fail
    rw [HB6.out, HB8.out]
    go_region_held3 (fun w' => World.cell? w' ⟨W.heap.size, 0, none⟩ = some (.int .i64 2) ∧ World.cell? w' ⟨W.heap.size, 1, none⟩ = some (.int .i64 0) ∧ World.cell? w' ⟨W.heap.size, 2, none⟩ = some (.string s) ∧ World.cell? w' ⟨W.heap.size, 3, none⟩ = some (.slice none 0 0) ∧ World.cell? w' ⟨W.heap.size, 4, none⟩ = some (.slice none 0 0) ∧ World.cell? w' ⟨W.heap.size, 5, none⟩ = some (.slice none 0 0) ∧ World.cell? w' ⟨b6, 0, none⟩ = some (.int .i64 2) ∧ World.cell? w' ⟨b6, 1, none⟩ = some (.int .i64 0) ∧ World.cell? w' ⟨b6, 2, none⟩ = some (.string s) ∧ World.cell? w' ⟨b6, 3, none⟩ = some (.slice ia3 0 ic3) ∧ World.cell? w' ⟨b6, 4, none⟩ = some (.slice ra3 0 rc3) ∧ World.cell? w' ⟨b6, 5, none⟩ = some (.slice ba3 0 bc3) ∧ World.cell? w' ⟨b8, 3, none⟩ = some (.slice (some ⟨g, off, none⟩) 2 icT) ∧ World.cell? w' ⟨g, off, none⟩ = some (.int .i64 2) ∧ World.cell? w' ⟨g, off + 1, none⟩ = some (.int .i64 0) ∧ World.cell? w' ⟨g, off + 2, none⟩ = some (.string s) ∧ World.cell? w' ⟨g, off + 3, none⟩ = some (.slice ia0 0 ic0) ∧ World.cell? w' ⟨g, off + 4, none⟩ = some (.slice ra0 0 rc0) ∧ World.cell? w' ⟨g, off + 5, none⟩ = some (.slice ba0 0 bc0) ∧ World.cell? w' ⟨g, off + 6 + 4, none⟩ = some (.slice (some ⟨g2, off2, none⟩) 1 rcL) ∧ World.cell? w' ⟨g, off + 10, none⟩ = some (.slice (some ⟨g2, off2, none⟩) 1 rcL) ∧ World.cell? w' ⟨g2, off2, none⟩ = some (.int .i64 2) ∧ World.cell? w' ⟨g2, off2 + 1, none⟩ = some (.int .i64 0) ∧ World.cell? w' ⟨g2, off2 + 2, none⟩ = some (.string s) ∧ World.cell? w' ⟨g2, off2 + 3, none⟩ = some (.slice iaR 0 icR) ∧ World.cell? w' ⟨g2, off2 + 4, none⟩ = some (.slice raR 0 rcR) ∧ World.cell? w' ⟨g2, off2 + 5, none⟩ = some (.slice baR 0 bcR)) (exact HF.out _ _ SL.out SS.out) (first
      | (go_at_call 30
         with_reducible refine HS1.out.mono ?_
         rintro e w5 ⟨rfl, s5⟩
         replace SS := hid s5
         have HS2 := hid (same_t (tB s) (ok_B HHS.out) W _ _ h4 _ _ s5 QI.out (in_B _ s))
         clear s5 HS1)
      | (go_at_call 30
         with_reducible refine HS2.out.mono ?_
         rintro e w6 ⟨rfl, s6⟩
         replace SS := hid s6
         have HS3 := hid (same_t (tB s) (ok_B HHS.out) W _ _ h4 _ _ s6 QR.out (in_B _ s))
         clear s6 HS2)
      | (go_at_call 30
         with_reducible refine HS3.out.mono ?_
         rintro e w7 ⟨rfl, s7⟩
         replace SS := hid s7
         have HAW := hid (awake_any s7)
         clear s7 HS3)
      | (go_at_call 18
         with_reducible refine HAW.out.mono ?_
         rintro e w8 ⟨h8, rfl, l8, s8⟩
         have L8 := hid (HL4.out.trans l8)
         replace SS := hid s8
         replace SL := hid l8
         clear s8 l8 HAW))
    all_goals go_wp2_with fail
    all_goals go_ret
    all_goals exact ⟨rfl, SS.out.archBelow L8.out⟩
  · have hw0 := wrong_B hr
    have HW0 := hid hw0
    clear hw0
    by_cases h0 : s.size = 0
    · obtain rfl := size0 h0
      go_enter Tryd.func13, Tryd.ntmps13
      go_wp2_with fail
      refine HWR.out.mono ?_
      rintro e w2 ⟨sv, ev, h2, rfl, l2, hw, s2⟩
      unfold WOf at hw
      rw [HW0.out] at hw
      obtain ⟨rfl, he⟩ := hw
      obtain ⟨ty, x, rfl⟩ := he.iface
      have L2 := hid l2
      have HAW := hid (awake_any s2)
      clear he l2 s2 HWR S0 HW0 hr
      go_wp2_with fail
      refine HAW.out.mono ?_
      rintro e w8 ⟨h8, rfl, l8, s8⟩
      have L8 := hid (L2.out.trans l8)
      have S9 := hid s8
      clear s8 l8 HAW
      go_wp2_with fail
      go_ret
      exact ⟨rfl, S9.out.archBelow L8.out⟩
    · have hne : s.toList.isEmpty = false := (size1 h0).1
      have hgt : (s.size : Int) > 255 := by omega
      have hgt2 : decide ((s.size : Int) > 255) = true := by simp; omega
      go_enter Tryd.func13, Tryd.ntmps13
      go_wp2_with fail
      refine HWR.out.mono ?_
      rintro e w2 ⟨sv, ev, h2, rfl, l2, hw, s2⟩
      unfold WOf at hw
      rw [HW0.out] at hw
      obtain ⟨rfl, he⟩ := hw
      obtain ⟨ty, x, rfl⟩ := he.iface
      have L2 := hid l2
      have HAW := hid (awake_any s2)
      clear he l2 s2 HWR S0 HW0 hr
      go_wp2_with fail
      refine HAW.out.mono ?_
      rintro e w8 ⟨h8, rfl, l8, s8⟩
      have L8 := hid (L2.out.trans l8)
      have S9 := hid s8
      clear s8 l8 HAW
      go_wp2_with fail
      go_ret
      exact ⟨rfl, S9.out.archBelow L8.out⟩
#print axioms atoms_walk
end Go.Proofs.YteaabbghnfideaaDoor
