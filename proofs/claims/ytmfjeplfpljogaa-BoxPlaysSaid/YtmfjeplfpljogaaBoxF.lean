/-
  THE BOX: Words; and the statements' own CopyWords, SameWords, Place.
-/
import Derived.Test.YtmfjeplfpljogaaBoxE
import Derived.Test.YtmfjeplfpljogaaSrc
namespace Go.Proofs.Ytmfjeplfpljogaa
open Go.RowKit
set_option maxHeartbeats 400000

theorem one_u64s (l : List Int) : ∀ u ∈ u64s l, u.oneCell' = true := by
  intro v hv
  simp only [u64s, List.mem_map] at hv
  obtain ⟨y, _, rfl⟩ := hv
  rfl
theorem get_u64s (l : List Int) (i : Nat) (h : i < l.length) : (u64s l)[i]? = some (.int .u64 (l.getD i 0)) := by
  simp [u64s, h]

theorem copyWords_any {W w : World} {L : List HP} (s : Sat W w L) (a : Option Addr) (n c : Nat) (xs : List Int) (hn : n = xs.length) (h : Rd w a (u64s xs)) (hb : n * 8 ≤ 140737488355328) :
    Calls Try.prog 18 #[.slice a n c] w fun e w' => ∃ a' c', e = .returned (.slice a' n c') ∧ Sat W w' (row 26 1 a' n c' (u64s xs) :: L) := by
  have hm : n ≤ maxLen := by unfold maxLen; omega
  have hnl : n = (u64s xs).length := by rw [length_u64s, hn]
  have HN := hid hnl
  clear hn hnl
  go_enter Try.func18, Try.ntmps18
  go_wp2_with (at_builtin; refine wpList_clone_src rfl _ _ rfl elem64 rfl s (u64s xs) rfl HN.out h (one_u64s xs) hm hb ?_; intro a' c' w1 s1 ha' hz; have S1 := hid s1; clear s1 s h ha')
  go_ret
  exact ⟨a', c', rfl, S1.out⟩

theorem tmod_emod (v n : Int) (h0 : 0 < n) : v % n = if v.tmod n < 0 then v.tmod n + n else v.tmod n := by
  have h1 : v % n = v.tmod n % n := by
    have := Int.mul_tdiv_add_tmod v n
    conv => lhs; rw [← this]
    rw [Int.add_comm, Int.add_mul_emod_self_left]
  have h2 := Int.tmod_lt_of_pos v h0
  have h3 : -n < v.tmod n := by
    have := Int.tmod_lt_of_pos (-v) h0
    rw [Int.neg_tmod] at this
    omega
  rw [h1]
  split
  · rw [← Int.add_emod_right, Int.emod_eq_of_lt (by omega) (by omega)]
  · exact Int.emod_eq_of_lt (by omega) h2

theorem place_any (v n : Int) (w : World) (h0 : 0 < n) (hn : n ≤ 4611686018427387904) :
    Calls Try.prog 8 #[.int .i64 v, .int .i64 n] w fun e w' => e = .returned (.int .i64 (v % n)) ∧ w = w' := by
  have hz : (n == 0) = false := by simp; omega
  have hm := tmod_emod v n h0
  have h3 : -n < v.tmod n := by
    have := Int.tmod_lt_of_pos (-v) h0
    rw [Int.neg_tmod] at this
    omega
  rw [hm]
  clear hm
  by_cases hlt : v.tmod n < 0
  · rw [if_pos hlt]
    go_enter Try.func8, Try.ntmps8
    go_wp2
    go_ret
    exact ⟨rfl, rfl⟩
  · rw [if_neg hlt]
    go_enter Try.func8, Try.ntmps8
    go_wp2
    go_ret
    exact ⟨rfl, rfl⟩

theorem words_box {W w : World} {L : List HP} {b : Nat} {xs : List Int} {at_ m : Nat} (s : Sat W w (box b xs at_ m :: L)) (hm : m * 8 ≤ 140737488355328) :
    Calls Try.prog 14 #[.pointer (some ⟨b, 0, none⟩)] w fun e w' => ∃ a' c', e = .returned (.slice a' xs.length c') ∧ Sat W w' (row 26 1 a' xs.length c' (u64s xs) :: box b xs at_ m :: L) := by
  obtain ⟨r, s', o, h1, h2, h3⟩ := box_open s
  have hx : xs.length = r.ys.length - r.first := by rw [← h1, List.length_drop]
  have le := o.le
  by_cases hy : r.first < r.ys.length
  · obtain ⟨g, off, ha, hc, _⟩ := s'.swap.rowCells (by omega)
    have hrd : Rd w (some ⟨g, off + r.first, none⟩) (u64s xs) := Rd.of_cells fun j hj => by
      rw [length_u64s] at hj
      rw [Nat.add_assoc, hc _ (by omega), ← h1, u64s, u64s, List.map_drop, List.getElem?_drop]
    have HS := hid s
    have hn1 : r.ys.length - r.first ≤ maxLen := by unfold maxLen; omega
    have hn2 : (r.ys.length - r.first) * 8 ≤ 140737488355328 := by omega
    have hn3 : r.ys.length - r.first = (u64s xs).length := by rw [length_u64s, hx]
    rw [hx]
    have HA := hid ha
    have HN := hid hn3
    clear ha hc s' h1 h2 h3 hx hn3 s
    go_enter Try.func14, Try.ntmps14
    go_wp2_with first | (go_at_call 21; refine (left_yes o g off HA.out hy).mono ?_; rintro e w' ⟨rfl, k, rfl⟩) | (at_builtin; refine wpList_clone_src rfl _ _ rfl elem64 rfl (HS.out.drewN _) (u64s xs) rfl HN.out (hrd.drewN _) (one_u64s xs) hn1 hn2 ?_; intro a' c' w1 s1 ha' hz; have S1 := hid s1; clear s1 ha')
    go_ret
    exact ⟨a', c', rfl, S1.out⟩
  · obtain rfl : xs = [] := List.eq_nil_of_length_eq_zero (by omega)
    have HS := hid s
    have hyl : r.ys.length = r.first := by omega
    have HY := hid hyl
    clear hyl s' h1 h2 h3 hx s hy le
    have hrd : Rd w r.a (u64s []) := Rd.nil _ _
    go_enter Try.func14, Try.ntmps14
    go_wp2_with first | (go_at_call 21; refine (left_no o HY.out).mono ?_; rintro e w' ⟨rfl, k, rfl⟩) | (at_builtin; refine wpList_clone_src rfl _ _ rfl elem64 rfl (HS.out.drewN _) (u64s []) rfl rfl (hrd.drewN _) (one_u64s []) (by unfold maxLen; omega) (by omega) ?_; intro a' c' w1 s1 ha' hz; have S1 := hid s1; clear s1 ha')
    go_ret
    exact ⟨a', c', rfl, S1.out⟩
#print axioms words_box
end Go.Proofs.Ytmfjeplfpljogaa
