/-
  bif: the names; Number, Name. (Written by wip/gen/gen_bifn.py.)
-/
import Derived.Test.YtlgogflhjpcmlaaDoorBifM
import Derived.Test.YtlgogflhjpcmlaaDoorShelf
import Derived.IntWalk
import Derived.BigQuiet
import Derived.Deep.QuietTactic
namespace Go.Proofs.YtlgogflhjpcmlaaDoor
open Go.RowKit
set_option maxHeartbeats 4000000
set_option maxRecDepth 100000

/-- the names, each with how many arguments it takes behind it -/
def nmL : List (List UInt8) := [[97, 100, 100, 50], [115, 117, 98, 50], [109, 117, 108, 50], [100, 105, 118, 50], [114, 101, 109, 50], [110, 101, 103, 49], [98, 97, 110, 100, 50], [98, 111, 114, 50], [98, 120, 111, 114, 50], [98, 115, 108, 50], [98, 115, 114, 50], [101, 113, 50], [108, 116, 50], [99, 111, 109, 112, 97, 114, 101, 50], [115, 105, 122, 101, 49], [101, 108, 101, 109, 101, 110, 116, 50], [115, 101, 116, 101, 108, 101, 109, 101, 110, 116, 51], [108, 105, 115, 116, 95, 116, 111, 95, 116, 117, 112, 108, 101, 49], [116, 117, 112, 108, 101, 95, 116, 111, 95, 108, 105, 115, 116, 49], [97, 112, 112, 101, 110, 100, 50], [114, 101, 118, 101, 114, 115, 101, 49], [108, 101, 110, 103, 116, 104, 49], [109, 101, 109, 98, 101, 114, 50], [110, 116, 104, 50], [105, 115, 95, 105, 110, 116, 49], [105, 115, 95, 97, 116, 111, 109, 49], [105, 115, 95, 112, 105, 100, 49], [105, 115, 95, 114, 101, 102, 49], [105, 115, 95, 116, 117, 112, 108, 101, 49], [105, 115, 95, 108, 105, 115, 116, 49], [105, 115, 95, 98, 105, 110, 49], [108, 105, 115, 116, 95, 116, 111, 95, 98, 105, 110, 49], [98, 105, 110, 95, 116, 111, 95, 108, 105, 115, 116, 49], [98, 105, 110, 95, 97, 116, 50], [98, 105, 110, 95, 112, 97, 114, 116, 51], [98, 105, 110, 95, 106, 111, 105, 110, 50], [115, 117, 109, 49], [115, 101, 113, 50], [97, 116, 111, 109, 95, 116, 111, 95, 108, 105, 115, 116, 49], [104, 97, 115, 104, 49]]
theorem nmL_len : nmL.length = 40 := by rfl
def nmV : Array Value := (nmL.map fun l => Value.string ⟨l.toArray⟩).toArray
def TabS (h : Nat → Option Obj) : Prop := ∃ g cs t fr, Tryd.prog.globalNamed "strings.asciiSpace" = some g ∧ h g = some (.cells cs t fr) ∧ cs = (Lib.asciiSpaceTab.map fun z => Value.int .u8 z).toArray
theorem tabS_of {W : World} (h : Lib.TabIs Tryd.prog W "strings.asciiSpace" .u8 Lib.asciiSpaceTab) : TabS (heapOf W) := by
  unfold Lib.TabIs World.var? at h
  obtain ⟨g, hg, h⟩ := Option.bind_eq_some_iff.1 h
  unfold heapOf TabS
  cases hh : W.heap[g]? with
  | none => rw [hh] at h; cases h
  | some o =>
    rw [hh] at h
    cases o <;> simp only [reduceCtorEq, Option.some.injEq] at h
    exact ⟨g, _, _, _, hg, hh, h⟩
theorem tabS_in {W w : World} {L : List HP} {h : Nat → Option Obj} (q : TabS h) (S : Sat W w (arch h :: L)) : Lib.TabIs Tryd.prog w "strings.asciiSpace" .u8 Lib.asciiSpaceTab := by
  obtain ⟨g, cs, t, fr, hg, hh, rfl⟩ := q
  unfold Lib.TabIs World.var?
  rw [hg]
  show (match w.heap[g]? with | some (.cells cs _ _) => some cs | _ => none) = _
  rw [S.archGet hh]
theorem TabS.mono {h h' : Nat → Option Obj} (l : Le h h') (q : TabS h) : TabS h' := by
  obtain ⟨g, cs, t, fr, hg, hh, e⟩ := q
  exact ⟨g, cs, t, fr, hg, l g _ hh, e⟩
section
variable {W w : World} {L : List HP} {h : Nat → Option Obj}
theorem fields_of (q : TabS h) (S : Sat W w (arch h :: L)) (s : ByteArray) (hs : (decide (s.size < 4294967281) && s.data.toList.all (fun b => decide (b.toNat < 128)) && (Lib.fields s.data.toList == nmL)) = true) :
    Calls Tryd.prog 28 #[.string s] w fun e w' => ∃ b, e = .returned (.slice (some ⟨b, 0, none⟩) 40 40) ∧ Sat W w' (blk b (.cells nmV 9 (0, 0)) :: arch h :: L) := by
  simp only [Bool.and_eq_true, decide_eq_true_eq, beq_iff_eq, List.all_eq_true] at hs
  refine (Tryd.strings_Fields s w hs.1.1 (fun j b hb => hs.1.2 b (List.mem_of_getElem? hb)) (tabS_in q S)).mono ?_
  rintro e w' ⟨rfl, rfl⟩
  rw [hs.2]
  exact ⟨w.heap.size, rfl, S.alloc _⟩
def numOf (nm : ByteArray) : Int := match nmL.findIdx? (fun l => l.dropLast == nm.data.toList) with | some i => i | none => -1
theorem num_found {nm : ByteArray} {i : Nat} {l : List UInt8} (hl : nmL[i]? = some l) (h : l.dropLast = nm.data.toList) (hb : ∀ (j : Nat) (l' : List UInt8), j < i → nmL[j]? = some l' → l'.dropLast ≠ nm.data.toList) : numOf nm = i := by
  unfold numOf
  have : nmL.findIdx? (fun l => l.dropLast == nm.data.toList) = some i := by
    obtain ⟨hi, he⟩ := List.getElem?_eq_some_iff.1 hl
    rw [List.findIdx?_eq_some_iff_getElem]
    refine ⟨hi, by rw [he, h]; simp, fun j hj => ?_⟩
    have := hb j _ hj (List.getElem?_eq_getElem (by omega))
    simpa using this
  rw [this]
theorem num_none {nm : ByteArray} (hb : ∀ (j : Nat) (l' : List UInt8), nmL[j]? = some l' → l'.dropLast ≠ nm.data.toList) : numOf nm = -1 := by
  unfold numOf
  have : nmL.findIdx? (fun l => l.dropLast == nm.data.toList) = none := by
    rw [List.findIdx?_eq_none_iff]
    intro l hl
    obtain ⟨j, hj⟩ := List.mem_iff_getElem?.1 hl
    simpa using hb j l hj
  rw [this]
theorem nm_ne : ∀ i : Fin 40, 2 ≤ (nmL[i.1]'(by rw [nmL_len]; exact i.2)).length ∧ (nmL[i.1]'(by rw [nmL_len]; exact i.2)).length ≤ 64 := by decide +kernel
theorem drop_last {l : List UInt8} {k : Nat} (hk : l.length = k + 1) : ((⟨l.toArray⟩ : ByteArray).extract 0 k).toList = l.dropLast := by
  rw [ByteArray.toList_eq, Lib.extract_data, List.dropLast_eq_take, hk]
  simp
theorem number_any (q : TabS h) (S : Sat W w (arch h :: L)) (nm : ByteArray) :
    Calls Tryd.prog 15 #[.string nm] w fun e w' => e = .returned (.int .i64 (numOf nm)) ∧ Sat W w' (arch h :: L) := by
  have HF := hid (fun s hs => fields_of q S s hs)
  clear q S
  go_enter Tryd.func15, Tryd.ntmps15
  go_wp2_with fail
  refine (HF.out _ (by kernel_rfl)).mono ?_
  rintro e w1 ⟨b, rfl, s1⟩
  have S1 := hid s1
  clear s1 HF
  go_wp2_with fail
  go_loopw [7] (fun iv wr => ∃ i : Nat, i ≤ 40 ∧ iv = .int .i64 i ∧ Hid (∀ (j : Nat) (l' : List UInt8), j < i → nmL[j]? = some l' → l'.dropLast ≠ nm.data.toList) ∧ Hid (Sat W wr (blk b (.cells nmV 9 (0, 0)) :: arch h :: L))) (fun iv _ => 40 - (intOf iv).toNat)
  case atStart => exact ⟨0, Nat.zero_le _, rfl, hid (fun j l' hj => by omega), S1⟩
  case round =>
    obtain ⟨i, hi, rfl, HB, S⟩ := hrel
    clear S1
    by_cases hlt : i < 40
    · obtain ⟨l, hl⟩ : ∃ l, nmL[i]? = some l := ⟨_, List.getElem?_eq_getElem (by rw [nmL_len]; exact hlt)⟩
      have hcell : World.cell? wr ⟨b, i, none⟩ = some (.string ⟨l.toArray⟩) := by
        rw [S.out.cell]; unfold nmV; rw [List.getElem?_toArray, List.getElem?_map, hl]; rfl
      have hlen : 2 ≤ l.length ∧ l.length ≤ 64 := by
        have := nm_ne ⟨i, hlt⟩
        simp only at this
        rw [(List.getElem?_eq_some_iff.1 hl).2] at this
        exact this
      obtain ⟨k, hk⟩ : ∃ k, l.length = k + 1 := ⟨l.length - 1, by omega⟩
      have hk2 : k ≤ 63 := by omega
      have hd := drop_last hk
      have hi1 : (i : Int) < 40 := by omega
      have HL := hid hl
      clear hl hlen
      by_cases heq : l.dropLast = nm.data.toList
      · have hq : (((⟨l.toArray⟩ : ByteArray).extract 0 k).toList == nm.toList) = true := by rw [hd, heq, ByteArray.toList_eq]; simp
        have HN := hid (num_found HL.out heq HB.out)
        clear heq hd
        go_wp2_with fail
        go_ret
        exact ⟨by rw [HN.out]; rfl, S.out.drop⟩
      · have hq : (((⟨l.toArray⟩ : ByteArray).extract 0 k).toList == nm.toList) = false := by rw [hd, ByteArray.toList_eq]; simpa using heq
        have HE := hid heq
        clear heq hd
        go_wp2_with fail
        go_roundw
        case rel => exact ⟨i + 1, by omega, by go_num, hid (fun j l' hj hl' => by
          by_cases hji : j = i
          · subst hji; rw [HL.out] at hl'; cases hl'; exact HE.out
          · exact HB.out j l' (by omega) hl'), S⟩
        case measure => simp [intOf]; omega
    · obtain rfl : i = 40 := by omega
      go_wp2_with fail
      go_ret
      have hn := num_none (nm := nm) (fun j l' hj => HB.out j l' (by have := (List.getElem?_eq_some_iff.1 hj).1; rw [nmL_len] at this; exact this) hj)
      exact ⟨by rw [hn]; rfl, S.out.drop⟩
theorem name_bad (q : TabS h) (S : Sat W w (arch h :: L)) (n : Int) (hn : n < 0 ∨ 40 ≤ n) :
    Calls Tryd.prog 14 #[.int .i64 n] w fun e w' => e = .returned (.tuple #[.string ⟨#[]⟩, .int .i64 0, .bool false]) ∧ Sat W w' (arch h :: L) := by
  have HF := hid (fun s hs => fields_of q S s hs)
  clear q S
  by_cases h0 : n < 0
  · go_enter Tryd.func14, Tryd.ntmps14
    go_wp2_with fail
    refine (HF.out _ (by kernel_rfl)).mono ?_
    rintro e w1 ⟨b, rfl, s1⟩
    have S1 := hid s1
    clear s1 HF
    go_wp2_with fail
    go_ret3
    exact ⟨rfl, S1.out.drop⟩
  · have h1 : 40 ≤ n := by omega
    go_enter Tryd.func14, Tryd.ntmps14
    go_wp2_with fail
    refine (HF.out _ (by kernel_rfl)).mono ?_
    rintro e w1 ⟨b, rfl, s1⟩
    have S1 := hid s1
    clear s1 HF hn
    go_wp2_with fail
    go_ret3
    exact ⟨rfl, S1.out.drop⟩
theorem name_ok (q : TabS h) (S : Sat W w (arch h :: L)) (i : Nat) (l : List UInt8) (k : Nat) (hk : l.length = k + 1) (hl : nmL[i]? = some l) (m : Int) (hm : ((l[k]'(by omega)).toNat : Int) = m + 48) (hm2 : 0 ≤ m ∧ m ≤ 9) :
    Calls Tryd.prog 14 #[.int .i64 i] w fun e w' => e = .returned (.tuple #[.string ((⟨l.toArray⟩ : ByteArray).extract 0 k), .int .i64 m, .bool true]) ∧ Sat W w' (arch h :: L) := by
  have HF := hid (fun s hs => fields_of q S s hs)
  have hlt : i < 40 := by have := (List.getElem?_eq_some_iff.1 hl).1; rw [nmL_len] at this; exact this
  have hlen : l.length ≤ 64 := by
    have := nm_ne ⟨i, hlt⟩
    simp only at this
    rw [(List.getElem?_eq_some_iff.1 hl).2] at this
    exact this.2
  have hk2 : k ≤ 63 := by omega
  have hcellf : ∀ {wr : World} {b : Nat} {L : List HP}, Sat W wr (blk b (.cells nmV 9 (0, 0)) :: L) → World.cell? wr ⟨b, i, none⟩ = some (.string ⟨l.toArray⟩) := by
    intro wr b L S
    rw [S.cell]; unfold nmV; rw [List.getElem?_toArray, List.getElem?_map, hl]; rfl
  have HCF : Hid (∀ {wr : World} {b : Nat} {L : List HP}, Sat W wr (blk b (.cells nmV 9 (0, 0)) :: L) → World.cell? wr ⟨b, i, none⟩ = some (.string ⟨l.toArray⟩)) := hid (fun s => hcellf s)
  have hi0 : ¬ (i : Int) < 0 := by omega
  have hi1 : (i : Int) < 40 := by omega
  have hi2 : ¬ (40 : Int) ≤ i := by omega
  have hd1 : decide ((i : Int) < 0) = false := by simp
  have hd2 : decide ((40 : Int) ≤ i) = false := by simp; omega
  have hw : IntKind.i64.wrap (k : Int) = k := IntWalk.i64_in _ (by omega)
  have hsz : (⟨l.toArray⟩ : ByteArray).size = k + 1 := by show l.toArray.size = _; rw [List.size_toArray, hk]
  have hk4 : (k : Int) ≤ (k : Int) + 1 := by omega
  have hk5 : (k : Int) < (k : Int) + 1 := by omega
  clear q S hcellf hlen hl
  go_enter Tryd.func14, Tryd.ntmps14
  go_wp2_with fail
  refine (HF.out _ (by kernel_rfl)).mono ?_
  rintro e w1 ⟨b, rfl, s1⟩
  have S1 := hid s1
  have hcell := HCF.out s1
  clear s1 HF
  go_wp2_with fail
  go_quiet (fail)
  go_wp2_with fail
  have hv : (((⟨l.toArray⟩ : ByteArray)[k]'(by rw [hsz]; omega)).toNat : Int) = m + 48 := hm
  have hv2 : ((((⟨l.toArray⟩ : ByteArray)[k]'(by rw [hsz]; omega)).toNat : Int) - 48) % 256 = m := by rw [hv]; omega
  go_ret3
  exact ⟨by rw [← hv2]; rfl, (S1.out.drewN _).drop⟩
end
end Go.Proofs.YtlgogflhjpcmlaaDoor
