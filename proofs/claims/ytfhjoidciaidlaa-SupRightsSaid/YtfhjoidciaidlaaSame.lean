/-
  Small functions of the statements of layer 17: Place, later, child, SameActs, SameInts.
-/
import Derived.Test.YtfhjoidciaidlaaSupB
import Derived.Laws.StructEq
namespace Go.Proofs.Ytfhjoidciaidlaa
open Go.RowKit
set_option maxHeartbeats 1000000

theorem tmod_emod (v n : Int) (h0 : 0 < n) : v % n = if v.tmod n < 0 then v.tmod n + n else v.tmod n := by
  have h1 : v % n = v.tmod n % n := by
    have := Int.mul_tdiv_add_tmod v n
    conv => lhs; rw [← this]
    rw [Int.add_comm, Int.add_mul_emod_self_left]
  have h2 := Int.tmod_lt_of_pos v h0
  have h3 : -n < v.tmod n := by
    have := Int.tmod_lt_of_pos (-v) h0
    rw [Int.neg_tmod] at this
    omega
  rw [h1]
  split
  · rw [← Int.add_emod_right, Int.emod_eq_of_lt (by omega) (by omega)]
  · exact Int.emod_eq_of_lt (by omega) h2
theorem place_any (v n : Int) (w : World) (h0 : 0 < n) (hn : n ≤ 4611686018427387904) :
    Calls Try.prog 16 #[.int .i64 v, .int .i64 n] w fun e w' => e = .returned (.int .i64 (v % n)) ∧ w = w' := by
  have hz : (n == 0) = false := by simp; omega
  have hm := tmod_emod v n h0
  have h3 : -n < v.tmod n := by
    have := Int.tmod_lt_of_pos (-v) h0
    rw [Int.neg_tmod] at this
    omega
  rw [hm]
  clear hm
  by_cases hlt : v.tmod n < 0
  · rw [if_pos hlt]
    go_enter Try.func16, Try.ntmps16
    go_wp2
    go_ret
    exact ⟨rfl, rfl⟩
  · rw [if_neg hlt]
    go_enter Try.func16, Try.ntmps16
    go_wp2
    go_ret
    exact ⟨rfl, rfl⟩
theorem later_any (v n : Int) (w : World) (h0 : 0 ≤ v) (hn : v ≤ 4611686018427387904) :
    Calls Try.prog 25 #[.int .i64 v, .int .i64 n] w fun e w' => e = .returned (.int .i64 (v + n % 30)) ∧ w = w' := by
  have h1 : 0 ≤ n % 30 := Int.emod_nonneg _ (by omega)
  have h2 : n % 30 < 30 := Int.emod_lt_of_pos _ (by omega)
  obtain ⟨x, hx⟩ : ∃ x, n % 30 = x := ⟨_, rfl⟩
  rw [hx] at h1 h2 ⊢
  have HX := hid hx
  clear hx
  go_enter Try.func25, Try.ntmps25
  go_wp2_with fail
  refine (place_any n 30 w (by omega) (by omega)).mono ?_
  rintro e w1 ⟨rfl, rfl⟩
  rw [HX.out]
  go_wp2_with fail
  go_ret
  exact ⟨rfl, rfl⟩
def tF : ByteArray := ⟨#[102]⟩
theorem child_any (r : Int) (w : World) :
    Calls Try.prog 17 #[.int .i64 r] w fun e w' => e = .returned (.agg #[.string tF, .int .i64 r, .int .i64 5]) ∧ ∃ o, w' = w.alloc o := by
  go_enter Try.func17, Try.ntmps17
  go_wp2_with fail
  exact bodyPost_ret (v := .agg #[.string tF, .int .i64 r, .int .i64 5]) (by simp [results, Try.results17, go_sem, tF]) rfl ⟨rfl, _, rfl⟩

set_option maxRecDepth 100000 in
theorem sameInts_any (w : World) (a b : Option Addr) (n m c d : Nat) (xs ys : List Int) (hn : n = xs.length) (hm : m = ys.length) (ha : Rd w a (i64s xs)) (hb : Rd w b (i64s ys)) (hn9 : n ≤ 9223372036854775807) (hm9 : m ≤ 9223372036854775807) :
    Calls Try.prog 22 #[.slice a n c, .slice b m d] w fun e w' => e = .returned (.bool (decide (xs = ys))) ∧ ∃ k, w' = w.drewN k := by
  by_cases hnm : n = m
  · subst hnm
    have hd0 : ((n : Int) != n) = false := by simp
    have HA := hid ha
    have HB := hid hb
    have HN := hid hn
    have HM := hid hm
    clear ha hb hn hm
    obtain ⟨r, HR⟩ : ∃ r, Hid (decide (xs = ys) = r) := ⟨_, rfl⟩
    rw [HR.out]
    go_enter Try.func22, Try.ntmps22
    go_wp2
    go_loopw [5] (fun i wr => ∃ k : Nat, k ≤ n ∧ i = .int .i64 k ∧ Hid (xs.take k = ys.take k) ∧ ∃ q, wr = w.drewN q) (fun i _ => n - (intOf i).toNat)
    case atStart => exact ⟨0, Nat.zero_le _, rfl, rfl, 0, rfl⟩
    case round =>
      obtain ⟨k, hk, rfl, HT, q, rfl⟩ := hrel
      by_cases hlt : k < n
      · obtain ⟨x, hx⟩ : ∃ x, xs[k]? = some x := ⟨_, List.getElem?_eq_getElem (by have := HN.out; omega)⟩
        obtain ⟨y, hy⟩ : ∃ y, ys[k]? = some y := ⟨_, List.getElem?_eq_getElem (by have := HM.out; omega)⟩
        obtain ⟨g, off, rfl, e0⟩ := HA.out k _ (get_i64s hx)
        obtain ⟨g', off', rfl, f0⟩ := HB.out k _ (get_i64s hy)
        have HX := hid hx
        have HY := hid hy
        clear hx hy
        by_cases hxy : x = y
        · subst hxy
          have hd1 : (x != x) = false := by simp
          go_wp2
          go_quiet (fail)
          go_wp2
          go_roundw
          case rel => exact ⟨k + 1, by omega, by go_num, by
            show xs.take (k + 1) = ys.take (k + 1)
            rw [List.take_add_one, List.take_add_one, HT.out, HX.out, HY.out], _, rfl⟩
          case measure => simp [intOf]; omega
        · have hd1 : (x != y) = true := by simpa using hxy
          have hr : r = false := by
            rw [← HR.out]
            refine decide_eq_false fun q => hxy ?_
            have h1 := HX.out
            have h2 := HY.out
            rw [q, h2] at h1
            exact (Option.some.inj h1).symm
          have HO := hid hr
          clear hxy hr
          go_wp2
          go_quiet (fail)
          go_wp2
          go_ret
          exact ⟨by rw [HO.out]; rfl, _, by rw [World.drewN_drewN]⟩
      · obtain rfl : k = n := by omega
        go_wp2
        go_ret
        refine ⟨?_, _, rfl⟩
        have h1 := HN.out
        have h2 := HM.out
        have h3 := HT.out
        rw [List.take_of_length_le (by omega), List.take_of_length_le (by omega)] at h3
        rw [← HR.out, decide_eq_true h3]; rfl
  · have hne : xs ≠ ys := fun q => hnm (by rw [hn, hm, q])
    have hd0 : ((n : Int) != m) = true := by simp; omega
    rw [decide_eq_false hne]
    clear ha hb hn hm hne hnm
    go_enter Try.func22, Try.ntmps22
    go_wp2
    go_ret
    exact ⟨rfl, 0, rfl⟩
set_option maxRecDepth 100000 in
theorem sameActs_any (w : World) (a b : Option Addr) (n m c d : Nat) (xs ys : List Ac) (hn : n = xs.length) (hm : m = ys.length) (ha : Rd w a (acVals xs)) (hb : Rd w b (acVals ys)) (hn9 : n ≤ 9223372036854775807) (hm9 : m ≤ 9223372036854775807) :
    Calls Try.prog 20 #[.slice a n c, .slice b m d] w fun e w' => e = .returned (.bool (decide (xs = ys))) ∧ ∃ k, w' = w.drewN k := by
  by_cases hnm : n = m
  · subst hnm
    have hd0 : ((n : Int) != n) = false := by simp
    have HA := hid ha
    have HB := hid hb
    have HN := hid hn
    have HM := hid hm
    clear ha hb hn hm
    obtain ⟨r, HR⟩ : ∃ r, Hid (decide (xs = ys) = r) := ⟨_, rfl⟩
    rw [HR.out]
    go_enter Try.func20, Try.ntmps20
    go_wp2
    go_loopw [5] (fun i wr => ∃ k : Nat, k ≤ n ∧ i = .int .i64 k ∧ Hid (xs.take k = ys.take k) ∧ ∃ q, wr = w.drewN q) (fun i _ => n - (intOf i).toNat)
    case atStart => exact ⟨0, Nat.zero_le _, rfl, rfl, 0, rfl⟩
    case round =>
      obtain ⟨k, hk, rfl, HT, q, rfl⟩ := hrel
      by_cases hlt : k < n
      · obtain ⟨⟨x1, x2⟩, hx⟩ : ∃ x, xs[k]? = some x := ⟨_, List.getElem?_eq_getElem (by have := HN.out; omega)⟩
        obtain ⟨⟨y1, y2⟩, hy⟩ : ∃ y, ys[k]? = some y := ⟨_, List.getElem?_eq_getElem (by have := HM.out; omega)⟩
        obtain ⟨g, off, rfl, e0⟩ := HA.out (k * 2 + 0) _ (by rw [acVals, flat_get lenAc hx (by omega)]; rfl)
        obtain ⟨_, _, hg, e1⟩ := HA.out (k * 2 + 1) _ (by rw [acVals, flat_get lenAc hx (by omega)]; rfl)
        cases hg
        obtain ⟨g', off', rfl, f0⟩ := HB.out (k * 2 + 0) _ (by rw [acVals, flat_get lenAc hy (by omega)]; rfl)
        obtain ⟨_, _, hg, f1⟩ := HB.out (k * 2 + 1) _ (by rw [acVals, flat_get lenAc hy (by omega)]; rfl)
        cases hg
        rw [Nat.add_zero] at e0 f0
        rw [← Nat.add_assoc] at e1 f1
        have HX := hid hx
        have HY := hid hy
        clear hx hy
        by_cases hxy : (⟨x1, x2⟩ : Ac) = ⟨y1, y2⟩
        · cases hxy
          go_wp2
          go_quiet (fail)
          go_wp2
          go_roundw
          case rel => exact ⟨k + 1, by omega, by go_num, by
            show xs.take (k + 1) = ys.take (k + 1)
            rw [List.take_add_one, List.take_add_one, HT.out, HX.out, HY.out], _, rfl⟩
          case measure => simp [intOf]; omega
        · have hr : r = false := by
            rw [← HR.out]
            refine decide_eq_false fun q => hxy ?_
            have h1 := HX.out
            have h2 := HY.out
            rw [q, h2] at h1
            exact (Option.some.inj h1).symm
          have HO := hid hr
          by_cases h1 : x1 = y1
          · subst h1
            have h2 : ¬ x2 = y2 := fun h => hxy (by rw [h])
            clear hxy hr
            go_wp2
            go_quiet (fail)
            go_wp2
            go_ret
            exact ⟨by rw [HO.out]; rfl, _, by rw [World.drewN_drewN]⟩
          · clear hxy hr
            go_wp2
            go_quiet (fail)
            go_wp2
            go_ret
            exact ⟨by rw [HO.out]; rfl, _, by rw [World.drewN_drewN]⟩
      · obtain rfl : k = n := by omega
        go_wp2
        go_ret
        refine ⟨?_, _, rfl⟩
        have h1 := HN.out
        have h2 := HM.out
        have h3 := HT.out
        rw [List.take_of_length_le (by omega), List.take_of_length_le (by omega)] at h3
        rw [← HR.out, decide_eq_true h3]; rfl
  · have hne : xs ≠ ys := fun q => hnm (by rw [hn, hm, q])
    have hd0 : ((n : Int) != m) = true := by simp; omega
    rw [decide_eq_false hne]
    clear ha hb hn hm hne hnm
    go_enter Try.func20, Try.ntmps20
    go_wp2
    go_ret
    exact ⟨rfl, 0, rfl⟩
end Go.Proofs.Ytfhjoidciaidlaa
