/-
  THE SUPERVISOR: Stop, Down.
-/
import Derived.Test.YtfhjoidciaidlaaSupD
import Derived.Deep.RegionHeld3
namespace Go.Proofs.Ytfhjoidciaidlaa
open Go.RowKit
set_option maxHeartbeats 400000

theorem mem_ups {ks : List Kid} {f i : Nat} (h : i ∈ ups ks f) : i < ks.length := by
  unfold ups upsTo at h
  have := (List.mem_filter.1 h).1
  simpa using this
theorem ups_length (ks : List Kid) (f : Nat) : (ups ks f).length ≤ ks.length := upsTo_length ks f ks.length
theorem fit_ups {s : Su} {f : Nat} {th : Then} (hk : s.kids.length ≤ 10000) (ht : th ≠ .no) (hr : ∀ i, th = .rest i → i ≤ s.kids.length) : (s.to_end (ups s.kids f).reverse th).fit :=
  ⟨hk, ht, hr, fun i hi => mem_ups (List.mem_reverse.1 hi), by have := ups_length s.kids f; simp only [Su.to_end, List.length_reverse]; omega⟩
def Kid.fall (k : Kid) : Kid := { k with up := false }
def Kid.lose (k : Kid) : Kid := { k with gone := true }
def Su.noted (s : Su) (i : Nat) (now : Int) : Su := { s with kids := s.kids.modify i Kid.fall, notes := s.notes ++ [now] }
def Su.down (s : Su) (i : Int) (normal : Bool) (now : Int) : Su × List Ac :=
  if s.state = 3 ∨ i < 0 ∨ s.kids.length ≤ i ∨ upAt s.kids i.toNat = false then (s, [])
  else if s.state = 2 then
    let s2 : Su := { s with kids := (s.kids.modify i.toNat Kid.fall).modify i.toNat Kid.leave }
    if i = s.stop then s2.next now else (s2, [])
  else if restAt s.kids i.toNat = 2 then ({ s with kids := (s.kids.modify i.toNat Kid.fall).modify i.toNat Kid.lose }, [])
  else if restAt s.kids i.toNat = 1 ∧ normal = true then ({ s with kids := s.kids.modify i.toNat Kid.fall }, [])
  else
    let s3 := s.noted i.toNat now
    if (recent now s3.t s3.notes : Nat) > s3.m then (s3.to_end (ups s3.kids 0).reverse .exit).next now
    else if s3.strat = 2 then (s3.to_end (ups s3.kids 0).reverse .all).next now
    else if s3.strat = 3 then (s3.to_end (ups s3.kids (i.toNat + 1)).reverse (.rest i.toNat)).next now
    else (s3.start i.toNat (i.toNat + 1), startActs s3.kids i.toNat (i.toNat + 1))

section
variable {W w : World} {L : List HP} {h : Nat → Option Obj} {p : Nat} {s : Su}
/-- the two boxes of Down -/
theorem down_boxes (S : Sat W w (sup p h s :: arch h :: L)) (i : Int) : ∃ h', Le h h' ∧ h' w.heap.size = some (.cells #[.pointer (some ⟨p, 0, none⟩)] 25 (0, 0)) ∧ h' (w.heap.size + 1) = some (.cells #[.int .i64 i] 3 (0, 0)) ∧
    Sat W ((w.alloc (.cells #[.pointer (some ⟨p, 0, none⟩)] 25)).alloc (.cells #[.int .i64 i] 3)) (sup p h' s :: arch h' :: L) := by
  obtain ⟨h1, l1, e1, s1⟩ := (S.swap.alloc (.cells #[.pointer (some ⟨p, 0, none⟩)] 25)).store
  obtain ⟨h2, l2, e2, s2⟩ := (s1.allocAt (k := w.heap.size + 1) (.cells #[.int .i64 i] 3) (by simp)).store
  exact ⟨h2, l1.trans l2, l2 _ _ e1, e2, sup_mono (l1.trans l2) s2.swap⟩

set_option maxRecDepth 100000 in
set_option maxHeartbeats 2000000 in
theorem down_no (S : Sat W w (sup p h s :: arch h :: L)) (i : Int) (normal : Bool) (now : Int) (hk : s.kids.length ≤ 10000) (hno : s.state = 3 ∨ i < 0 ∨ s.kids.length ≤ i ∨ upAt s.kids i.toNat = false) :
    Calls Try.prog 19 #[.pointer (some ⟨p, 0, none⟩), .int .i64 i, .bool normal, .int .i64 now] w fun e w' => ∃ h', e = .returned (.slice none 0 0) ∧ Le h h' ∧ Sat W w' (sup p h' s :: arch h' :: L) := by
  obtain ⟨h', le, e1, e2, s2⟩ := down_boxes S i
  obtain ⟨⟨ka, kc, na, nc, la, lc, tv⟩, ht, s'⟩ := sup_open s2
  have b0 := s2.drop.archCell e1 0
  have b1 := s2.drop.archCell e2 0
  simp only [List.getElem?_toArray, List.getElem?_cons_zero] at b0 b1
  have c4 : World.cell? _ _ = some (.slice ka s.kids.length kc) := s'.cell 4
  have c5 : World.cell? _ _ = some (.int .i64 s.state) := s'.cell 5
  have S2 := hid s2
  have HLE := hid le
  by_cases h3 : s.state = 3
  · have hd : (s.state == 3) = true := by simpa using h3
    clear S s2 s' ht e1 e2 hno le
    go_enter Try.func19, Try.ntmps19
    go_wp2_with fail
    go_quiet (fail)
    go_wp2_with fail
    go_ret
    exact ⟨_, rfl, HLE.out, S2.out.drewN _⟩
  · have hd : (s.state == 3) = false := by simpa using h3
    by_cases hi : i < 0
    · clear S s2 s' ht e1 e2 hno le
      go_enter Try.func19, Try.ntmps19
      go_wp2_with fail
      go_quiet (fail)
      go_wp2_with fail
      go_ret
      exact ⟨_, rfl, HLE.out, S2.out.drewN _⟩
    · by_cases hg : s.kids.length ≤ i
      · have hd0 : decide (i < 0) = false := by simpa using hi
        have hd1 : decide ((s.kids.length : Int) ≤ i) = true := by simpa using hg
        clear S s2 s' ht e1 e2 hno le
        go_enter Try.func19, Try.ntmps19
        go_wp2_with fail
        go_quiet (fail)
        go_wp2_with fail
        go_ret
        exact ⟨_, rfl, HLE.out, S2.out.drewN _⟩
      · obtain ⟨j, rfl⟩ : ∃ j : Nat, i = j := ⟨i.toNat, by omega⟩
        have hj : j < s.kids.length := by omega
        obtain ⟨⟨kc', up, gn⟩, hx⟩ : ∃ x, s.kids[j]? = some x := ⟨_, List.getElem?_eq_getElem hj⟩
        have hup : up = false := by
          rcases hno with q | q | q | q
          · exact absurd q h3
          · omega
          · omega
          · simpa [upAt, hx] using q
        subst hup
        obtain ⟨kg, ko, hka, hkc, _⟩ := (s'.sel [1]).rowCells (by omega)
        simp only at hka
        subst hka
        have e3 := hkc (j * 5 + 3) (by omega)
        rw [kidVals, flat_get lenKid hx (by omega)] at e3
        simp only [Kid.vals, List.getElem?_cons_succ, List.getElem?_cons_zero] at e3
        rw [← Nat.add_assoc] at e3
        have hd0 : decide ((j : Int) < 0) = false := by simp
        have hd1 : decide ((s.kids.length : Int) ≤ j) = false := by simpa using hj
        clear S s2 s' ht e1 e2 hno le hx hkc
        go_enter Try.func19, Try.ntmps19
        go_wp2_with fail
        go_quiet (fail)
        go_wp2_with fail
        go_ret
        exact ⟨_, rfl, HLE.out, S2.out.drewN _⟩
end
end Go.Proofs.Ytfhjoidciaidlaa
