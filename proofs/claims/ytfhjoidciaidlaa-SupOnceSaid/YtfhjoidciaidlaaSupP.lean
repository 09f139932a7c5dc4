/-
  THE SUPERVISOR, plain: what Down does, way by way.
-/
import Derived.Test.YtfhjoidciaidlaaSupE
namespace Go.Proofs.Ytfhjoidciaidlaa
section
variable {s : Su} {j : Nat} {k : Kid} {n : Bool} {now : Int}
theorem up_of (hx : s.kids[j]? = some k) : upAt s.kids j = k.up := by simp [upAt, hx]
theorem rest_of (hx : s.kids[j]? = some k) : restAt s.kids j = k.c.r := by simp [restAt, hx]
theorem alive {P : Prop} (h3 : s.state ≠ 3) (hx : s.kids[j]? = some k) (hu : k.up = true) (h : s.state = 3 ∨ (j : Int) < 0 ∨ (s.kids.length : Int) ≤ j ∨ upAt s.kids (j : Int).toNat = false) : P := by
  have hl := (List.getElem?_eq_some_iff.1 hx).1
  rcases h with q | q | q | q
  · exact absurd q h3
  · omega
  · omega
  · rw [Int.toNat_natCast, up_of hx, hu] at q; cases q
theorem down_dead {i : Int} (h : s.state = 3 ∨ i < 0 ∨ s.kids.length ≤ i ∨ upAt s.kids i.toNat = false) : s.down i n now = (s, []) := by unfold Su.down; rw [if_pos h]
theorem down_stopping (h2 : s.state = 2) (hx : s.kids[j]? = some k) (hu : k.up = true) : s.down j n now = if (j : Int) = s.stop then Su.next { s with kids := (s.kids.modify j Kid.fall).modify j Kid.leave } now else ({ s with kids := (s.kids.modify j Kid.fall).modify j Kid.leave }, []) := by
  unfold Su.down
  rw [if_neg (fun h => alive (by rw [h2]; decide) hx hu h), if_pos h2]
  simp only [Int.toNat_natCast]
theorem down_temp (h3 : s.state ≠ 3) (h2 : s.state ≠ 2) (hx : s.kids[j]? = some k) (hu : k.up = true) (hr : k.c.r = 2) : s.down j n now = ({ s with kids := (s.kids.modify j Kid.fall).modify j Kid.lose }, []) := by
  unfold Su.down
  rw [if_neg (fun h => alive h3 hx hu h), if_neg h2, if_pos (by rw [Int.toNat_natCast, rest_of hx, hr])]
  simp only [Int.toNat_natCast]
theorem down_trans (h3 : s.state ≠ 3) (h2 : s.state ≠ 2) (hx : s.kids[j]? = some k) (hu : k.up = true) (hr2 : k.c.r ≠ 2) (hr : k.c.r = 1 ∧ n = true) : s.down j n now = ({ s with kids := s.kids.modify j Kid.fall }, []) := by
  unfold Su.down
  rw [if_neg (fun h => alive h3 hx hu h), if_neg h2, if_neg (by rw [Int.toNat_natCast, rest_of hx]; exact hr2), if_pos (by rw [Int.toNat_natCast, rest_of hx]; exact hr)]
  simp only [Int.toNat_natCast]
theorem down_note (h3 : s.state ≠ 3) (h2 : s.state ≠ 2) (hx : s.kids[j]? = some k) (hu : k.up = true) (hr2 : k.c.r ≠ 2) (hr : ¬ (k.c.r = 1 ∧ n = true)) :
    s.down j n now = if (recent now s.t (s.notes ++ [now]) : Nat) > s.m then ((s.noted j now).to_end (ups (s.kids.modify j Kid.fall) 0).reverse .exit).next now
    else if s.strat = 2 then ((s.noted j now).to_end (ups (s.kids.modify j Kid.fall) 0).reverse .all).next now
    else if s.strat = 3 then ((s.noted j now).to_end (ups (s.kids.modify j Kid.fall) (j + 1)).reverse (.rest j)).next now
    else ((s.noted j now).start j (j + 1), startActs (s.kids.modify j Kid.fall) j (j + 1)) := by
  unfold Su.down
  rw [if_neg (fun h => alive h3 hx hu h), if_neg h2, if_neg (by rw [Int.toNat_natCast, rest_of hx]; exact hr2), if_neg (by rw [Int.toNat_natCast, rest_of hx]; exact hr)]
  simp only [Int.toNat_natCast]
  rfl
end
end Go.Proofs.Ytfhjoidciaidlaa
