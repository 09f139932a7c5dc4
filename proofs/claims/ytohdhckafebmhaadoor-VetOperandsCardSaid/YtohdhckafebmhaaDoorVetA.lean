/-
  vet: in, number, operand. (Written by wip/gen/gen_veta.py.)
-/
import Derived.Test.YtohdhckafebmhaaDoorVetM
import Derived.Test.YtohdhckafebmhaaDoorErrB
import Derived.IntWalk
import Derived.Deep.DeepCutAuto
import Derived.Deep.CutBlock
namespace Go.Proofs.YtohdhckafebmhaaDoor
open Go.RowKit
set_option maxHeartbeats 4000000

def errV (k : Int) : Value := if k = 0 then .nilIface else .iface 49 (.int .i64 k)
def vetc (mv fv : List Value) : Array Value := (mv ++ fv ++ shpV).toArray
def bifNm : Int → ByteArray := fun _ => ByteArray.empty
theorem in_any (n b : Int) (w : World) : Calls Tryd.prog 39 #[.int .i64 n, .int .i64 b] w fun e w' => e = .returned (.bool (inB n b)) ∧ w = w' := by
  rcases (show ¬ 0 ≤ n ∨ (0 ≤ n ∧ n < b) ∨ (0 ≤ n ∧ ¬ n < b) by omega) with h | ⟨h, h'⟩ | ⟨h, h'⟩
  · have hr : inB n b = false := decide_eq_false (by omega)
    rw [hr]
    go_enter Tryd.func39, Tryd.ntmps39
    go_wp2_with fail
    go_ret
    exact ⟨rfl, rfl⟩
  · have hr : inB n b = true := decide_eq_true (by omega)
    rw [hr]
    go_enter Tryd.func39, Tryd.ntmps39
    go_wp2_with fail
    go_ret
    exact ⟨rfl, rfl⟩
  · have hr : inB n b = false := decide_eq_false (by omega)
    rw [hr]
    go_enter Tryd.func39, Tryd.ntmps39
    go_wp2_with fail
    go_ret
    exact ⟨rfl, rfl⟩
theorem number_any (l n : Int) (w : World) : Calls Tryd.prog 66 #[.int .u8 l, .int .i64 n] w fun e w' => e = .returned (errV (numE l n)) ∧ w = w' := by
  obtain ⟨r, HR⟩ : ∃ r, Hid (numE l n = r) := ⟨_, hid rfl⟩
  rw [HR.out]
  by_cases h1 : l = 110
  · subst h1
    rcases (show n < 0 ∨ (¬ n < 0 ∧ 16 < n) ∨ (¬ n < 0 ∧ ¬ 16 < n) by omega) with hc | ⟨hc, hd⟩ | ⟨hc, hd⟩
    · have hr : r = 1 := by rw [← HR.out]; unfold numE; simp []; omega
      subst hr
      clear HR
      go_enter Tryd.func66, Tryd.ntmps66
      go_wp2_with fail
      go_ret
      exact ⟨rfl, rfl⟩
    · have hr : r = 1 := by rw [← HR.out]; unfold numE; simp []; omega
      subst hr
      clear HR
      go_enter Tryd.func66, Tryd.ntmps66
      go_wp2_with fail
      go_ret
      exact ⟨rfl, rfl⟩
    · have hr : r = 0 := by rw [← HR.out]; unfold numE; simp []; omega
      subst hr
      clear HR
      go_enter Tryd.func66, Tryd.ntmps66
      go_wp2_with fail
      go_ret
      exact ⟨rfl, rfl⟩
  by_cases h2 : l = 107
  · subst h2
    rcases (show n < 1 ∨ (¬ n < 1 ∧ 9 < n) ∨ (¬ n < 1 ∧ ¬ 9 < n) by omega) with hc | ⟨hc, hd⟩ | ⟨hc, hd⟩
    · have hr : r = 1 := by rw [← HR.out]; unfold numE; simp []; omega
      subst hr
      clear HR
      go_enter Tryd.func66, Tryd.ntmps66
      go_wp2_with fail
      go_ret
      exact ⟨rfl, rfl⟩
    · have hr : r = 1 := by rw [← HR.out]; unfold numE; simp []; omega
      subst hr
      clear HR
      go_enter Tryd.func66, Tryd.ntmps66
      go_wp2_with fail
      go_ret
      exact ⟨rfl, rfl⟩
    · have hr : r = 0 := by rw [← HR.out]; unfold numE; simp []; omega
      subst hr
      clear HR
      go_enter Tryd.func66, Tryd.ntmps66
      go_wp2_with fail
      go_ret
      exact ⟨rfl, rfl⟩
  by_cases h3 : l = 105
  · subst h3
    rcases (show n < 0 ∨ (¬ n < 0 ∧ 65536 < n) ∨ (¬ n < 0 ∧ ¬ 65536 < n) by omega) with hc | ⟨hc, hd⟩ | ⟨hc, hd⟩
    · have hr : r = 1 := by rw [← HR.out]; unfold numE; simp []; omega
      subst hr
      clear HR
      go_enter Tryd.func66, Tryd.ntmps66
      go_wp2_with fail
      go_ret
      exact ⟨rfl, rfl⟩
    · have hr : r = 1 := by rw [← HR.out]; unfold numE; simp []; omega
      subst hr
      clear HR
      go_enter Tryd.func66, Tryd.ntmps66
      go_wp2_with fail
      go_ret
      exact ⟨rfl, rfl⟩
    · have hr : r = 0 := by rw [← HR.out]; unfold numE; simp []; omega
      subst hr
      clear HR
      go_enter Tryd.func66, Tryd.ntmps66
      go_wp2_with fail
      go_ret
      exact ⟨rfl, rfl⟩
  rcases (show n < 0 ∨ (¬ n < 0 ∧ 0 < n) ∨ (¬ n < 0 ∧ ¬ 0 < n) by omega) with hc | ⟨hc, hd⟩ | ⟨hc, hd⟩
  · have hr : r = 1 := by rw [← HR.out]; unfold numE; simp [h1, h2, h3]; omega
    subst hr
    clear HR
    go_enter Tryd.func66, Tryd.ntmps66
    go_wp2_with fail
    go_ret
    exact ⟨rfl, rfl⟩
  · have hr : r = 1 := by rw [← HR.out]; unfold numE; simp [h1, h2, h3]; omega
    subst hr
    clear HR
    go_enter Tryd.func66, Tryd.ntmps66
    go_wp2_with fail
    go_ret
    exact ⟨rfl, rfl⟩
  · have hr : r = 0 := by rw [← HR.out]; unfold numE; simp [h1, h2, h3]; omega
    subst hr
    clear HR
    go_enter Tryd.func66, Tryd.ntmps66
    go_wp2_with fail
    go_ret
    exact ⟨rfl, rfl⟩
def BifC : Prop := ∀ (n : Int) (W w : World) (L : List HP), Sat W w L → Calls Tryd.prog 65 #[.int .i64 n] w fun e w' => ∃ s, e = .returned (.tuple #[.string s, .int .i64 (if inB n 40 then bifN.getD n.toNat 0 else 0), .bool (inB n 40)]) ∧ Sat W w' L
section
variable {W w : World} {L : List HP} {v : Nat} {nm fn : ByteArray} {la fa ca : Option Addr} {nl lc nf fc nc cc : Nat} {ar sl : Int}
set_option maxRecDepth 100000 in
theorem opd_any (S : Sat W w (blk v (.cells (vetc [.string nm, .slice la nl lc, .slice fa nf fc] [.string fn, .int .i64 ar, .int .i64 sl, .slice ca nc cc]) 72 (0, 0)) :: L))
    (m : Md) (f : Fn) (h1 : m.lits.length = nl) (h2 : m.fs.length = nf) (h3 : f.code.length = nc) (h4 : f.slots = sl) (l n : Int) (hb : l = 98 → BifC) (hn : fits n) :
    Calls Tryd.prog 63 #[.pointer (some ⟨v, 0, none⟩), .int .u8 l, .int .i64 n] w fun e w' => e = .returned (errV (opdE m f l n)) ∧ Sat W w' (blk v (.cells (vetc [.string nm, .slice la nl lc, .slice fa nf fc] [.string fn, .int .i64 ar, .int .i64 sl, .slice ca nc cc]) 72 (0, 0)) :: L) := by
  obtain ⟨r, HR⟩ : ∃ r, Hid (opdE m f l n = r) := ⟨_, hid rfl⟩
  rw [HR.out]
  have hx := fun i => S.cell i
  have c1 : w.cell? ⟨v, 1, none⟩ = some (.slice la nl lc) := hx 1
  have c2 : w.cell? ⟨v, 2, none⟩ = some (.slice fa nf fc) := hx 2
  have c5 : w.cell? ⟨v, 5, none⟩ = some (.int .i64 sl) := hx 5
  have c6 : w.cell? ⟨v, 6, none⟩ = some (.slice ca nc cc) := hx 6
  have S1 := hid S
  have HB := hid hb
  have H1 := hid h1
  have H2 := hid h2
  have H3 := hid h3
  have H4 := hid h4
  obtain ⟨hn1, hn2⟩ := hn
  clear hx S hb h1 h2 h3 h4
  by_cases e1 : l = 115
  · subst e1
    by_cases hl : 64 ≤ n ∧ n - 64 < nl
    · obtain ⟨hl1, hl2⟩ := hl
      have hr : r = 0 := by rw [← HR.out]; unfold opdE litB regB slotB inB; rw [H4.out, H1.out]; simp; omega
      subst hr
      clear HR
      go_enter Tryd.func63, Tryd.ntmps63
      go_wp2_with fail
      go_ret
      exact ⟨rfl, S1.out⟩
    · by_cases h64 : 64 ≤ n
      · have h65 : ¬ n - 64 < nl := fun q => hl ⟨h64, q⟩
        clear hl
        go_enter Tryd.func63, Tryd.ntmps63
        rcases (show (16 ≤ n ∧ n - 16 < sl) ∨ (16 ≤ n ∧ ¬ n - 16 < sl) by omega) with ⟨h, h'⟩ | ⟨h, h'⟩
        · have hr : r = 0 := by rw [← HR.out]; unfold opdE litB regB slotB inB; rw [H4.out, H1.out]; simp; omega
          have hi : inB n 16 = false := decide_eq_false (by omega)
          have hd : decide (n - 16 < sl) = true := decide_eq_true h'
          subst hr
          clear HR
          go_wp2_with fail
          refine (in_any n 16 w).mono ?_
          rintro e w1 ⟨rfl, rfl⟩
          rw [hi]
          go_wp2_with fail
          go_ret
          exact ⟨rfl, S1.out⟩
        · have hr : r = 12 := by rw [← HR.out]; unfold opdE litB regB slotB inB; rw [H4.out, H1.out]; simp; omega
          have hi : inB n 16 = false := decide_eq_false (by omega)
          have hd : decide (n - 16 < sl) = false := decide_eq_false h'
          subst hr
          clear HR
          go_wp2_with fail
          refine (in_any n 16 w).mono ?_
          rintro e w1 ⟨rfl, rfl⟩
          rw [hi]
          go_wp2_with fail
          go_ret
          exact ⟨rfl, S1.out⟩
      · skip
        go_enter Tryd.func63, Tryd.ntmps63
        rcases (show (0 ≤ n ∧ n < 16) ∨ (n < 0) ∨ (16 ≤ n ∧ n - 16 < sl) ∨ (16 ≤ n ∧ ¬ n - 16 < sl) by omega) with ⟨h, h'⟩ | h | ⟨h, h'⟩ | ⟨h, h'⟩
        · have hr : r = 0 := by rw [← HR.out]; unfold opdE litB regB slotB inB; rw [H4.out, H1.out]; simp; omega
          have hi : inB n 16 = true := decide_eq_true (by omega)
          subst hr
          clear HR
          go_wp2_with fail
          refine (in_any n 16 w).mono ?_
          rintro e w1 ⟨rfl, rfl⟩
          rw [hi]
          go_wp2_with fail
          go_ret
          exact ⟨rfl, S1.out⟩
        · have hr : r = 12 := by rw [← HR.out]; unfold opdE litB regB slotB inB; rw [H4.out, H1.out]; simp; omega
          have hi : inB n 16 = false := decide_eq_false (by omega)
          subst hr
          clear HR
          go_wp2_with fail
          refine (in_any n 16 w).mono ?_
          rintro e w1 ⟨rfl, rfl⟩
          rw [hi]
          go_wp2_with fail
          go_ret
          exact ⟨rfl, S1.out⟩
        · have hr : r = 0 := by rw [← HR.out]; unfold opdE litB regB slotB inB; rw [H4.out, H1.out]; simp; omega
          have hi : inB n 16 = false := decide_eq_false (by omega)
          have hd : decide (n - 16 < sl) = true := decide_eq_true h'
          subst hr
          clear HR
          go_wp2_with fail
          refine (in_any n 16 w).mono ?_
          rintro e w1 ⟨rfl, rfl⟩
          rw [hi]
          go_wp2_with fail
          go_ret
          exact ⟨rfl, S1.out⟩
        · have hr : r = 12 := by rw [← HR.out]; unfold opdE litB regB slotB inB; rw [H4.out, H1.out]; simp; omega
          have hi : inB n 16 = false := decide_eq_false (by omega)
          have hd : decide (n - 16 < sl) = false := decide_eq_false h'
          subst hr
          clear HR
          go_wp2_with fail
          refine (in_any n 16 w).mono ?_
          rintro e w1 ⟨rfl, rfl⟩
          rw [hi]
          go_wp2_with fail
          go_ret
          exact ⟨rfl, S1.out⟩
  by_cases e2 : l = 112
  · subst e2
    go_enter Tryd.func63, Tryd.ntmps63
    rcases (show (0 ≤ n ∧ n < 16) ∨ (n < 0) ∨ (16 ≤ n ∧ n - 16 < sl) ∨ (16 ≤ n ∧ ¬ n - 16 < sl) by omega) with ⟨h, h'⟩ | h | ⟨h, h'⟩ | ⟨h, h'⟩
    · have hr : r = 0 := by rw [← HR.out]; unfold opdE litB regB slotB inB; rw [H4.out]; simp; omega
      have hi : inB n 16 = true := decide_eq_true (by omega)
      subst hr
      clear HR
      go_wp2_with fail
      refine (in_any n 16 w).mono ?_
      rintro e w1 ⟨rfl, rfl⟩
      rw [hi]
      go_wp2_with fail
      go_ret
      exact ⟨rfl, S1.out⟩
    · have hr : r = 12 := by rw [← HR.out]; unfold opdE litB regB slotB inB; rw [H4.out]; simp; omega
      have hi : inB n 16 = false := decide_eq_false (by omega)
      subst hr
      clear HR
      go_wp2_with fail
      refine (in_any n 16 w).mono ?_
      rintro e w1 ⟨rfl, rfl⟩
      rw [hi]
      go_wp2_with fail
      go_ret
      exact ⟨rfl, S1.out⟩
    · have hr : r = 0 := by rw [← HR.out]; unfold opdE litB regB slotB inB; rw [H4.out]; simp; omega
      have hi : inB n 16 = false := decide_eq_false (by omega)
      have hd : decide (n - 16 < sl) = true := decide_eq_true h'
      subst hr
      clear HR
      go_wp2_with fail
      refine (in_any n 16 w).mono ?_
      rintro e w1 ⟨rfl, rfl⟩
      rw [hi]
      go_wp2_with fail
      go_ret
      exact ⟨rfl, S1.out⟩
    · have hr : r = 12 := by rw [← HR.out]; unfold opdE litB regB slotB inB; rw [H4.out]; simp; omega
      have hi : inB n 16 = false := decide_eq_false (by omega)
      have hd : decide (n - 16 < sl) = false := decide_eq_false h'
      subst hr
      clear HR
      go_wp2_with fail
      refine (in_any n 16 w).mono ?_
      rintro e w1 ⟨rfl, rfl⟩
      rw [hi]
      go_wp2_with fail
      go_ret
      exact ⟨rfl, S1.out⟩
  by_cases e3 : l = 120
  · subst e3
    go_enter Tryd.func63, Tryd.ntmps63
    cases hi : inB n 16 with
    | true =>
      have hr : r = 0 := by rw [← HR.out]; unfold opdE regB; simp [hi]
      subst hr
      clear HR
      go_wp2_with fail
      refine (in_any n 16 w).mono ?_
      rintro e w1 ⟨rfl, rfl⟩
      rw [hi]
      go_wp2_with fail
      go_ret
      exact ⟨rfl, S1.out⟩
    | false =>
      have hr : r = 12 := by rw [← HR.out]; unfold opdE regB; simp [hi]
      subst hr
      clear HR
      go_wp2_with fail
      refine (in_any n 16 w).mono ?_
      rintro e w1 ⟨rfl, rfl⟩
      rw [hi]
      go_wp2_with fail
      go_ret
      exact ⟨rfl, S1.out⟩
  by_cases e4 : l = 98
  · subst e4
    go_enter Tryd.func63, Tryd.ntmps63
    have HBN := hid (HB.out rfl n W w _ S1.out)
    cases hi : inB n 40 with
    | true =>
      have hr : r = 0 := by rw [← HR.out]; unfold opdE; simp [hi]
      rw [hi] at HBN
      subst hr
      clear HR
      go_wp2_with fail
      refine HBN.out.mono ?_
      rintro e w1 ⟨s, rfl, s1⟩
      have S2 := hid s1
      clear s1 HBN
      go_wp2_with fail
      go_ret
      exact ⟨rfl, S2.out⟩
    | false =>
      have hr : r = 12 := by rw [← HR.out]; unfold opdE; simp [hi]
      rw [hi] at HBN
      subst hr
      clear HR
      go_wp2_with fail
      refine HBN.out.mono ?_
      rintro e w1 ⟨s, rfl, s1⟩
      have S2 := hid s1
      clear s1 HBN
      go_wp2_with fail
      go_ret
      exact ⟨rfl, S2.out⟩
  by_cases e5 : l = 102
  · subst e5
    go_enter Tryd.func63, Tryd.ntmps63
    cases hi : inB n (nf : Int) with
    | true =>
      have hr : r = 0 := by rw [← HR.out]; unfold opdE regB; rw [H2.out]; simp [hi]
      subst hr
      clear HR
      go_wp2_with fail
      refine (in_any n (nf : Int) w).mono ?_
      rintro e w1 ⟨rfl, rfl⟩
      rw [hi]
      go_wp2_with fail
      go_ret
      exact ⟨rfl, S1.out⟩
    | false =>
      have hr : r = 12 := by rw [← HR.out]; unfold opdE regB; rw [H2.out]; simp [hi]
      subst hr
      clear HR
      go_wp2_with fail
      refine (in_any n (nf : Int) w).mono ?_
      rintro e w1 ⟨rfl, rfl⟩
      rw [hi]
      go_wp2_with fail
      go_ret
      exact ⟨rfl, S1.out⟩
  by_cases e6 : l = 108
  · subst e6
    go_enter Tryd.func63, Tryd.ntmps63
    cases hi : inB n (nc : Int) with
    | true =>
      have hr : r = 0 := by rw [← HR.out]; unfold opdE regB; rw [H3.out]; simp [hi]
      subst hr
      clear HR
      go_wp2_with fail
      refine (in_any n (nc : Int) w).mono ?_
      rintro e w1 ⟨rfl, rfl⟩
      rw [hi]
      go_wp2_with fail
      go_ret
      exact ⟨rfl, S1.out⟩
    | false =>
      have hr : r = 13 := by rw [← HR.out]; unfold opdE regB; rw [H3.out]; simp [hi]
      subst hr
      clear HR
      go_wp2_with fail
      refine (in_any n (nc : Int) w).mono ?_
      rintro e w1 ⟨rfl, rfl⟩
      rw [hi]
      go_wp2_with fail
      go_ret
      exact ⟨rfl, S1.out⟩
  have hr : r = numE l n := by rw [← HR.out]; unfold opdE; simp [e1, e2, e3, e4, e5, e6]
  subst hr
  clear HR
  go_enter Tryd.func63, Tryd.ntmps63
  go_wp2_with fail
  refine (number_any l n w).mono ?_
  rintro e w1 ⟨rfl, rfl⟩
  go_wp2_with fail
  go_ret
  exact ⟨rfl, S1.out⟩
end
#print axioms opd_any
end Go.Proofs.YtohdhckafebmhaaDoor
