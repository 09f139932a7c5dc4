/-
  strings.Builder in the small separation logic: String (wherever its row begins); the builder and its row are given up.
-/
import Derived.Test.YtlgogflhjpcmlaaDoorBld
import Derived.Test.YtlgogflhjpcmlaaDoorWord
import Derived.Lib.UnsafeStr
namespace Go.Proofs.YtlgogflhjpcmlaaDoor
open Go.RowKit
set_option maxHeartbeats 2000000

theorem lies_off {P : Program} {e : TypeId} (hc : P.cellsOf e = 1) (count off n : Nat) (hn : off + n ≤ count) : liesAt P P.depth e count off e n = true := by
  have hd : P.depth = (2 * (P.types.size + Made.depth) + 1) + 1 := rfl
  rw [hd]
  simp only [liesAt, Bool.or_eq_true]
  left
  rw [hd]
  simp [rowAt, hc, hn, sameLayout, Nat.mod_one]
theorem run_unsafeString_off {P : Program} (w : World) (pt it ty e : TypeId) (hp : P.underlying pt = some (.pointer e)) (hc : P.cellsOf e = 1) (g off cells : Nat) (hsh : w.shape? g = some (e, cells)) (l : List UInt8) (h0 : l ≠ []) (hn : off + l.length ≤ cells) (h63 : l.length ≤ 9223372036854775807)
    (hcell : ∀ j x, l[j]? = some x → w.cell? ((⟨g, off, none⟩ : Addr).add j) = some (.int .u8 x.toNat)) :
    (Builtin.unsafeString_ #[pt, it] ty #[.pointer (some ⟨g, off, none⟩), .int .i64 l.length]).run P w = .ok (.string ⟨l.toArray⟩) (w.freeze ⟨g, off, none⟩ l.length) := by
  have hl : l.length ≠ 0 := by simpa using h0
  have hlb := Lib.run_loadBytes (P := P) w l ⟨g, off, none⟩ .empty hcell
  have hlies := lies_off (P := P) hc (cells / P.cellsOf e) off l.length (by rw [hc]; simpa using hn)
  have h63' : ¬ (9223372036854775807 : Int) < (l.length : Int) := by omega
  have hdef : Builtin.unsafeString_ #[pt, it] ty #[.pointer (some ⟨g, off, none⟩), .int .i64 l.length] =
      (do
        let n ← asInt (.int .i64 l.length)
        if n < 0 then runtimePanic (.error "unsafe.String: len out of range")
        if n > IntKind.i64.max then unsupported (.unsafePointer "String: a length above the largest int")
        if n = 0 then pure (.string .empty)
        else if ← variablesAt ⟨g, off, none⟩ (← elemOf pt) n.toNat then do
          let s ← loadBytes ⟨g, off, none⟩ .empty n.toNat
          freeze ⟨g, off, none⟩ n.toNat
          pure (.string s)
        else unsupported (.unsafePointer "String: not so many bytes at ptr")) := rfl
  rw [hdef]
  have hmax : IntKind.i64.max = 9223372036854775807 := rfl
  have hneg : ¬ (l.length : Int) < 0 := by omega
  simp [asInt, asIntOf, hmax, h63', hneg, hl, variablesAt, hsh, elemOf, run_underlying hp, hlies, hlb]
theorem u8s_byts (q : ByteArray) : u8s (byts q) = Lib.byteCells q.data.toList := by simp [u8s, byts, Lib.byteCells]
section
variable {W w : World} {L : List HP} {b : Nat}
theorem Sat.freeze {g : Nat} {cur : Array Value} {e : TypeId} {fr : Nat × Nat} (s : Sat W w (blk g (.cells cur e fr) :: L)) (off n : Nat) : Sat W (w.freeze ⟨g, off, none⟩ n) L := by
  by_cases hn : n = 0
  · have : w.freeze ⟨g, off, none⟩ n = w := by simp [World.freeze, hn]
    rw [this]; exact s.drop
  · obtain ⟨lo, hi⟩ := fr
    refine (s.turn (w' := w.freeze ⟨g, off, none⟩ n) (o' := .cells cur e (if lo == hi then (off, off + n) else (min lo off, max hi (off + n)))) ?_ ?_ ?_ ?_ ?_ ?_).drop
    · simp [World.freeze, hn]
    · simp [World.freeze, hn]
    · simp [World.freeze, hn]
    · simp [World.freeze, hn]
    · simp [World.freeze, hn, Array.getElem?_modify, s.get]
    · intro k _ hk
      simp only [World.freeze, hn, if_false, Array.getElem?_modify]
      rw [if_neg (fun h => hk h.symm)]
theorem cells8 : Tryd.prog.cellsOf 5 = 1 := by kernel_rfl
set_option maxRecDepth 100000 in
/-- String of a builder that holds at least one byte -/
theorem str_some (q : ByteArray) (h0 : q.data.toList ≠ []) (S : Sat W w (bld b (u8s (byts q)) :: L)) :
    Calls Tryd.prog 77 #[.pointer (some ⟨b, 0, none⟩)] w fun e w' => e = .returned (.string q) ∧ Sat W w' L := by
  obtain ⟨⟨p, a, c⟩, hp, s⟩ := bld_open S
  simp only at hp s
  rw [u8s_byts] at s
  obtain ⟨l, hl⟩ : ∃ l : List UInt8, q.data.toList = l := ⟨_, rfl⟩
  have hq : q = ⟨l.toArray⟩ := by rw [← hl]
  subst hq
  rw [hl, Lib.byteCells_length] at s
  rw [hl] at h0
  clear hl S
  have hl0 : l.length ≠ 0 := by simpa using h0
  have hrl := s.swap.rowLen
  have hcell := s.swap.rowCells (by omega)
  rcases s.swap.rowOpen with ⟨_, _, hz, _⟩ | ⟨g, off, cur, rfl, s2, h4, h5⟩
  · exact absurd hz hl0
  obtain ⟨g', off', hga, hcs, _⟩ := hcell
  obtain ⟨rfl, rfl, -⟩ : g = g' ∧ off = off' ∧ True := by
    injection hga with hga; injection hga with e1 e2; exact ⟨e1, e2, trivial⟩
  have hcm : l.length ≤ 9223372036854775807 := by have := hrl.2; unfold maxLen at this; omega
  have c1 : w.drew.cell? ⟨b, 1, none⟩ = some (.slice (some ⟨g, off, none⟩) l.length c) := s.cell 1
  have hSD : (Builtin.unsafeSliceData_ #[33] 129 #[.slice (some ⟨g, off, none⟩) l.length c]).run Tryd.prog w.drew = .ok (.pointer (some ⟨g, off, none⟩)) w.drew :=
    Lib.run_unsafeSliceData_row _ _ _ _ _ _ (by omega)
  have hUS : (Builtin.unsafeString_ #[129, 3] 9 #[.pointer (some ⟨g, off, none⟩), .int .i64 l.length]).run Tryd.prog w.drew = .ok (.string ⟨l.toArray⟩) (w.drew.freeze ⟨g, off, none⟩ l.length) := by
    refine run_unsafeString_off w.drew 129 3 9 5 Tryd.underlying129 cells8 g off cur.size s2.drew.shape l h0 (by omega) hcm ?_
    intro j x hx
    have hj : j < l.length := by
      rcases Nat.lt_or_ge j l.length with h | h
      · exact h
      · rw [List.getElem?_eq_none h] at hx; cases hx
    rw [Addr.add_lit]
    have := hcs j (by omega)
    rw [show w.drew.cell? ⟨g, off + j, none⟩ = w.cell? ⟨g, off + j, none⟩ from rfl, this]
    simp [Lib.byteCells, hx]
  have S4 := hid (s2.drop.drew)
  have S5 : Hid (Sat W (w.drew.freeze ⟨g, off, none⟩ l.length) L) := hid (s2.swap.drop.drew.freeze off l.length)
  clear s s2 hcs h4 h5 hrl hp hga S4
  have mixed : Tryd.prog.follows .mixedOrders = true := by kernel_rfl
  go_enter Tryd.func77, Tryd.ntmps77
  go_wp2
  go_region_o
  all_goals (go_wp2; go_ret; exact ⟨rfl, S5.out⟩)
set_option maxRecDepth 100000 in
/-- String of an empty builder -/
theorem str_none (S : Sat W w (bld b [] :: L)) :
    Calls Tryd.prog 77 #[.pointer (some ⟨b, 0, none⟩)] w fun e w' => e = .returned (.string ByteArray.empty) ∧ Sat W w' L := by
  obtain ⟨⟨p, a, c⟩, hp, s⟩ := bld_open S
  simp only [List.length_nil] at hp s
  have hUS : ∀ (x : Option Addr) (w : World), (Builtin.unsafeString_ #[129, 3] 9 #[.pointer x, .int .i64 0]).run Tryd.prog w = .ok (.string .empty) w := fun x w => Lib.run_unsafeString_none w _ _ _ x
  have c1 : w.drew.cell? ⟨b, 1, none⟩ = some (.slice a 0 c) := s.cell 1
  have S4 := hid (s.drop.drop.drew)
  have mixed : Tryd.prog.follows .mixedOrders = true := by kernel_rfl
  rcases s.swap.rowOpen with ⟨rfl, rfl, _, _, s2⟩ | ⟨g, off, cur, rfl, s2, h4, h5⟩
  · have hSD : (Builtin.unsafeSliceData_ #[33] 129 #[.slice none 0 0]).run Tryd.prog w.drew = .ok (.pointer none) w.drew := rfl
    clear s s2 hp S
    go_enter Tryd.func77, Tryd.ntmps77
    go_wp2
    go_region_o
    all_goals (go_wp2; go_ret; exact ⟨rfl, S4.out⟩)
  · by_cases hc0 : c = 0
    · subst hc0
      have hlt := s.lt
      have hSD : (Builtin.unsafeSliceData_ #[33] 129 #[.slice (some ⟨g, off, none⟩) 0 0]).run Tryd.prog w.drew = .ok (.pointer (some ⟨w.drew.heap.size, 0, none⟩)) (w.drew.alloc (.view ⟨g, off, none⟩ 5)) :=
        Lib.run_unsafeSliceData_zero w.drew _ _ 5 Tryd.underlying129 ⟨g, off, none⟩ 0 (5, cur.size) s2.drew.shape
      have S6 := hid (s.drop.drop.drew.alloc' (.view ⟨g, off, none⟩ 5))
      have c2 : (w.drew.alloc (.view ⟨g, off, none⟩ 5)).cell? ⟨b, 1, none⟩ = some (.slice (some ⟨g, off, none⟩) 0 0) := (s.drew.alloc' _).cell 1
      have c3 : (w.alloc (.view ⟨g, off, none⟩ 5)).drew.cell? ⟨b, 1, none⟩ = some (.slice (some ⟨g, off, none⟩) 0 0) := c2
      have c0 : w.cell? ⟨b, 1, none⟩ = some (.slice (some ⟨g, off, none⟩) 0 0) := c1
      clear s s2 hp h4 h5 S
      go_enter Tryd.func77, Tryd.ntmps77
      go_wp2
      go_region_o
      all_goals (go_wp2; go_ret; exact ⟨rfl, S6.out⟩)
    · have hSD : (Builtin.unsafeSliceData_ #[33] 129 #[.slice (some ⟨g, off, none⟩) 0 c]).run Tryd.prog w.drew = .ok (.pointer (some ⟨g, off, none⟩)) w.drew :=
        Lib.run_unsafeSliceData_row _ _ _ _ _ _ hc0
      clear hc0 s s2 hp h4 h5 S
      go_enter Tryd.func77, Tryd.ntmps77
      go_wp2
      go_region_o
      all_goals (go_wp2; go_ret; exact ⟨rfl, S4.out⟩)
theorem str_any (q : ByteArray) (S : Sat W w (bld b (u8s (byts q)) :: L)) :
    Calls Tryd.prog 77 #[.pointer (some ⟨b, 0, none⟩)] w fun e w' => e = .returned (.string q) ∧ Sat W w' L := by
  by_cases h0 : q.data.toList = []
  · have hq : q = ByteArray.empty := by
      apply ByteArray.ext
      apply Array.ext'
      rw [h0]; rfl
    subst hq
    exact str_none S
  · exact str_some q h0 S
end
#print axioms str_any
end Go.Proofs.YtlgogflhjpcmlaaDoor
