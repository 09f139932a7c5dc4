/-
  THE SUPERVISOR: New.
-/
import Derived.Test.YtfhjoidciaidlaaSpec
import Derived.Test.YtfhjoidciaidlaaSupC
namespace Go.Proofs.Ytfhjoidciaidlaa
open Go.RowKit
set_option maxHeartbeats 1000000

def kid0 (c : Chd) : Kid := ⟨c, false, false⟩
def Su.new (s : Sp) : Su := ⟨s.strat, s.m, s.t, s.ch.map kid0, 0, [], [], -1, 0, false, .no⟩
section
variable {W w : World} {L : List HP} {h : Nat → Option Obj}
theorem new_bad (S : Sat W w (arch h :: L)) (s : Sp) (a : Option Addr) (c : Nat) (hr : RdIn h a (chVals s.ch)) (hsz : ∀ x ∈ s.ch, x.f.size ≤ 140737488351232) (hc : s.ch.length ≤ maxLen) {fs : List (ByteArray × Int)} (hf : s.fault = some fs) :
    Calls Try.prog 10 #[specAgg s a c] w fun e w' => ∃ v h', e = .returned (.tuple #[.pointer none, v]) ∧ Le h h' ∧ ErrIn h' v fs 20 ∧ Sat W w' (arch h' :: L) := by
  have HS := hid hsz
  have HC := hid hc
  have HR := hid hr
  have HF := hid hf
  have S1 := hid ((S.allocAt (.cells #[.int .i64 s.strat, .int .i64 s.m, .int .i64 s.t, .slice a s.ch.length c] 24) rfl).swap)
  clear S hr hsz hc hf
  unfold specAgg
  go_enter Try.func10, Try.ntmps10
  go_wp2_with fail
  refine (sup_right S1.out s a c HR.out HS.out HC.out).mono ?_
  rintro e w1 ⟨v, h', rfl, le, he, s1⟩
  rw [HF.out] at he
  obtain ⟨ty, x, rfl⟩ := ErrIn.iface he
  have HLE := hid le
  have HE := hid he
  have S2 := hid s1
  clear le he s1 S1
  go_wp2_with fail
  go_ret2
  exact ⟨_, _, rfl, HLE.out, HE.out, S2.out.swap.drop⟩
set_option maxRecDepth 100000 in
theorem new_ok (S : Sat W w (arch h :: L)) (s : Sp) (a : Option Addr) (c : Nat) (hr : RdIn h a (chVals s.ch)) (hsz : ∀ x ∈ s.ch, x.f.size ≤ 140737488351232) (hc : s.ch.length ≤ 32) (hf : s.fault = none) :
    Calls Try.prog 10 #[specAgg s a c] w fun e w' => ∃ p h', e = .returned (.tuple #[.pointer (some ⟨p, 0, none⟩), .nilIface]) ∧ Le h h' ∧ Sat W w' (sup p h' (Su.new s) :: arch h' :: L) := by
  have HS := hid hsz
  have HR := hid hr
  have HF := hid hf
  obtain ⟨st, m, t, ch⟩ := s
  obtain ⟨n, HN⟩ : ∃ n, Hid (ch.length = n) := ⟨_, rfl⟩
  simp only at hc
  have S1 := hid ((S.allocAt (.cells #[.int .i64 st, .int .i64 m, .int .i64 t, .slice a ch.length c] 24) rfl).swap)
  clear S hr hsz hf
  unfold specAgg
  simp only
  rw [HN.out] at S1 hc ⊢
  go_enter Try.func10, Try.ntmps10
  go_wp2_with fail
  have hrt := sup_right S1.out ⟨st, m, t, ch⟩ a c HR.out HS.out (by unfold maxLen; simp only [HN.out]; omega)
  unfold specAgg at hrt
  simp only [HN.out] at hrt
  refine hrt.mono ?_
  rintro e w1 ⟨v, h', rfl, le, he, s1⟩
  rw [HF.out] at he
  unfold ErrOr at he
  subst he
  have HLE := hid le
  have S2 := hid s1
  have c0 : w1.cell? ⟨w.heap.size, 0, none⟩ = some (.int .i64 st) := S2.out.swap.cell 0
  have c1 : w1.cell? ⟨w.heap.size, 1, none⟩ = some (.int .i64 m) := S2.out.swap.cell 1
  have c2 : w1.cell? ⟨w.heap.size, 2, none⟩ = some (.int .i64 t) := S2.out.swap.cell 2
  have c3 : w1.cell? ⟨w.heap.size, 3, none⟩ = some (.slice a n c) := S2.out.swap.cell 3
  have S3 := hid (S2.out.allocAt (k := w1.heap.size) (.cells #[.int .i64 st, .int .i64 m, .int .i64 t, .slice none 0 0, .slice none 0 0, .int .i64 0, .slice none 0 0, .slice none 0 0, .int .i64 (-1), .int .i64 0, .bool false, .nilFunc] 67) rfl)
  have d3 : World.cell? _ ⟨w.heap.size, 3, none⟩ = some (.slice a n c) := S3.out.rot3.cell 3
  clear le s1 S1 hrt S2
  go_wp2_with fail
  go_loopw [23] (fun iv wr => ∃ (i : Nat) (A : Option Addr) (ca : Nat), i ≤ n ∧ iv = .int .i64 i ∧ Hid (Sat W wr (blk w1.heap.size (.cells #[.int .i64 st, .int .i64 m, .int .i64 t, .slice none 0 0, .slice A i ca, .int .i64 0, .slice none 0 0, .slice none 0 0, .int .i64 (-1), .int .i64 0, .bool false, .nilFunc] 67 (0, 0)) :: row 69 5 A i ca (kidVals ((ch.take i).map kid0)) :: arch h' :: L))) (fun iv _ => n - (intOf iv).toNat)
  case atStart => exact ⟨0, none, 0, Nat.zero_le _, rfl, hid (S3.out.rot3.drop.rowNil (e := 69) (size := 5)).swap⟩
  case round =>
    obtain ⟨i, A, ca, hi, rfl, S⟩ := hrel
    clear S3 c0 c1 c2 c3 d3
    by_cases hlt : i < n
    · obtain ⟨⟨cf, cr, ct⟩, hx⟩ : ∃ x, ch[i]? = some x := ⟨_, List.getElem?_eq_getElem (by rw [HN.out]; exact hlt)⟩
      have hrd := (S.out.drop.drop).archRd (HR.out.mono HLE.out)
      obtain ⟨g, off, rfl, e0⟩ := hrd (i * 3 + 0) _ (by rw [chVals, flat_get lenChd hx (by omega)]; rfl)
      obtain ⟨_, _, hg, e1⟩ := hrd (i * 3 + 1) _ (by rw [chVals, flat_get lenChd hx (by omega)]; rfl)
      cases hg
      obtain ⟨_, _, hg, e2⟩ := hrd (i * 3 + 2) _ (by rw [chVals, flat_get lenChd hx (by omega)]; rfl)
      cases hg
      rw [Nat.add_zero] at e0
      rw [← Nat.add_assoc] at e1 e2
      have htk : (ch.take (i + 1)).map kid0 = (ch.take i).map kid0 ++ [⟨⟨cf, cr, ct⟩, false, false⟩] := by rw [List.take_add_one, hx]; simp [kid0]
      have HTK := hid htk
      have S2 := hid (S.out.alloc' (.cells #[.string cf, .int .i64 cr, .int .i64 ct] 39))
      have c4 : World.cell? _ ⟨w1.heap.size, 4, none⟩ = some (.slice A i ca) := S2.out.cell 4
      have c4' : World.cell? _ ⟨w1.heap.size, 4, none⟩ = some (.slice A i ca) := (S2.out.alloc' (.cells #[.string cf, .int .i64 cr, .int .i64 ct, .bool false, .bool false] 69)).cell 4
      clear hrd hx S htk
      go_wp2_with fail
      go_region_law (refine step_pushN rfl _ _ rfl elemKid rfl S2.out.swap.drew (Kid.vals ⟨⟨cf, cr, ct⟩, false, false⟩) rfl rfl (by simp) (oneKid _) (by unfold maxLen; omega) (by omega) ?_; intro a' c' w3 s4 ha' hz; have S4 := hid s4.swap; clear s4; have c5 : w3.cell? ⟨w1.heap.size, 4, none⟩ = some (.slice A i ca) := S4.out.cell 4; have f5 := S4.out.free 4)
      all_goals have s6 := S4.out.set 4 (.slice a' (i + 1) c')
      all_goals have S6 := hid s6
      all_goals clear s6 S2 c4 c4' S4
      all_goals go_wp2_with fail
      all_goals go_roundw
      all_goals first
        | exact ⟨i + 1, a', c', by omega, by go_num, by rw [HTK.out, kidVals, flat_snoc]; exact S6⟩
        | (simp [intOf]; omega)
    · obtain rfl : i = n := by omega
      go_wp2_with fail
      go_ret2
      refine ⟨_, h', rfl, HLE.out, ?_⟩
      have htk : ch.take i = ch := List.take_of_length_le (by rw [HN.out]; exact Nat.le_refl _)
      have s6 := S.out
      rw [htk] at s6
      refine Sat.mkbun (α := SR) ⟨A, ca, none, 0, none, 0, .nilFunc⟩ trivial ?_
      simp only [supParts, supCells, Su.new, List.length_map, HN.out]
      exact ((s6.rot3.rowNil (e := 3) (size := 1)).rowNil (e := 3) (size := 1)).rot5.rot5
end
end Go.Proofs.Ytfhjoidciaidlaa
