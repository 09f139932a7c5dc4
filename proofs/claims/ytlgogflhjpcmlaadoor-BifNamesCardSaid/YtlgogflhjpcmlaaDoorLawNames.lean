/-
  BifNames: the law's own walk. (Written by wip/gen/gen_lawnames.py.)
-/
import Derived.Test.YtlgogflhjpcmlaaDoorBifG
namespace Go.Proofs.YtlgogflhjpcmlaaDoor
open Go.RowKit
set_option maxHeartbeats 4000000
set_option maxRecDepth 100000

def digL (l : List UInt8) : Int := ((l.getLast?.getD 48).toNat : Int) - 48
def fsP (l : List UInt8) : List Value := [.string ⟨l.dropLast.toArray⟩, .int .i64 (digL l)]
def fsV : List Value := nmL.flatMap fsP
theorem fsV_lit : fsV = [.string ⟨#[97, 100, 100]⟩, .int .i64 2, .string ⟨#[115, 117, 98]⟩, .int .i64 2, .string ⟨#[109, 117, 108]⟩, .int .i64 2, .string ⟨#[100, 105, 118]⟩, .int .i64 2, .string ⟨#[114, 101, 109]⟩, .int .i64 2, .string ⟨#[110, 101, 103]⟩, .int .i64 1, .string ⟨#[98, 97, 110, 100]⟩, .int .i64 2, .string ⟨#[98, 111, 114]⟩, .int .i64 2, .string ⟨#[98, 120, 111, 114]⟩, .int .i64 2, .string ⟨#[98, 115, 108]⟩, .int .i64 2, .string ⟨#[98, 115, 114]⟩, .int .i64 2, .string ⟨#[101, 113]⟩, .int .i64 2, .string ⟨#[108, 116]⟩, .int .i64 2, .string ⟨#[99, 111, 109, 112, 97, 114, 101]⟩, .int .i64 2, .string ⟨#[115, 105, 122, 101]⟩, .int .i64 1, .string ⟨#[101, 108, 101, 109, 101, 110, 116]⟩, .int .i64 2, .string ⟨#[115, 101, 116, 101, 108, 101, 109, 101, 110, 116]⟩, .int .i64 3, .string ⟨#[108, 105, 115, 116, 95, 116, 111, 95, 116, 117, 112, 108, 101]⟩, .int .i64 1, .string ⟨#[116, 117, 112, 108, 101, 95, 116, 111, 95, 108, 105, 115, 116]⟩, .int .i64 1, .string ⟨#[97, 112, 112, 101, 110, 100]⟩, .int .i64 2, .string ⟨#[114, 101, 118, 101, 114, 115, 101]⟩, .int .i64 1, .string ⟨#[108, 101, 110, 103, 116, 104]⟩, .int .i64 1, .string ⟨#[109, 101, 109, 98, 101, 114]⟩, .int .i64 2, .string ⟨#[110, 116, 104]⟩, .int .i64 2, .string ⟨#[105, 115, 95, 105, 110, 116]⟩, .int .i64 1, .string ⟨#[105, 115, 95, 97, 116, 111, 109]⟩, .int .i64 1, .string ⟨#[105, 115, 95, 112, 105, 100]⟩, .int .i64 1, .string ⟨#[105, 115, 95, 114, 101, 102]⟩, .int .i64 1, .string ⟨#[105, 115, 95, 116, 117, 112, 108, 101]⟩, .int .i64 1, .string ⟨#[105, 115, 95, 108, 105, 115, 116]⟩, .int .i64 1, .string ⟨#[105, 115, 95, 98, 105, 110]⟩, .int .i64 1, .string ⟨#[108, 105, 115, 116, 95, 116, 111, 95, 98, 105, 110]⟩, .int .i64 1, .string ⟨#[98, 105, 110, 95, 116, 111, 95, 108, 105, 115, 116]⟩, .int .i64 1, .string ⟨#[98, 105, 110, 95, 97, 116]⟩, .int .i64 2, .string ⟨#[98, 105, 110, 95, 112, 97, 114, 116]⟩, .int .i64 3, .string ⟨#[98, 105, 110, 95, 106, 111, 105, 110]⟩, .int .i64 2, .string ⟨#[115, 117, 109]⟩, .int .i64 1, .string ⟨#[115, 101, 113]⟩, .int .i64 2, .string ⟨#[97, 116, 111, 109, 95, 116, 111, 95, 108, 105, 115, 116]⟩, .int .i64 1, .string ⟨#[104, 97, 115, 104]⟩, .int .i64 1] := by rfl
theorem fsV_at {i : Nat} {l : List UInt8} (hl : nmL[i]? = some l) : fsV[i * 2]? = some (.string ⟨l.dropLast.toArray⟩) ∧ fsV[i * 2 + 1]? = some (.int .i64 (digL l)) := by
  have key : ∀ j, j < 2 → fsV[i * 2 + j]? = (fsP l)[j]? := fun j hj => flat_get (f := fsP) (size := 2) (fun _ => rfl) hl hj
  exact ⟨key 0 (by omega), key 1 (by omega)⟩
theorem dig_all : ∀ i : Fin 40, 0 ≤ digL (nmL[i.1]'(by rw [nmL_len]; exact i.2)) ∧ digL (nmL[i.1]'(by rw [nmL_len]; exact i.2)) ≤ 9 := by decide +kernel
theorem nm_inj : ∀ i j : Fin 40, (nmL[i.1]'(by rw [nmL_len]; exact i.2)).dropLast = (nmL[j.1]'(by rw [nmL_len]; exact j.2)).dropLast → i = j := by decide +kernel
theorem nm_inj' {i j : Nat} {l l' : List UInt8} (h1 : nmL[i]? = some l) (h2 : nmL[j]? = some l') (h : l.dropLast = l'.dropLast) : i = j := by
  obtain ⟨a1, b1⟩ := List.getElem?_eq_some_iff.1 h1
  obtain ⟨a2, b2⟩ := List.getElem?_eq_some_iff.1 h2
  have c1 : i < 40 := by rw [← nmL_len]; exact a1
  have c2 : j < 40 := by rw [← nmL_len]; exact a2
  have := nm_inj ⟨i, c1⟩ ⟨j, c2⟩ (by show (nmL[i]'a1).dropLast = (nmL[j]'a2).dropLast; rw [b1, b2]; exact h)
  exact Fin.mk.inj this
section
variable {W w : World} {L : List HP} {h : Nat → Option Obj}
theorem fs_any (S : Sat W w L) : Calls Tryd.prog 13 #[] w fun e w' => ∃ b, e = .returned (.slice (some ⟨b, 0, none⟩) 40 40) ∧ Sat W w' (blk b (.cells fsV.toArray 27 (0, 0)) :: L) := by
  have S1 := hid (S.alloc (.cells fsV.toArray 27))
  rw [fsV_lit] at S1 ⊢
  clear S
  go_enter Tryd.func13, Tryd.ntmps13
  go_wp2_with fail
  go_ret
  exact ⟨_, rfl, S1.out⟩
/-- Name's answer -/
def nmOut (n : Int) : ByteArray × Int × Bool := if 0 ≤ n ∧ n < 40 then (match nmL[n.toNat]? with | some l => (⟨l.dropLast.toArray⟩, digL l, true) | none => (⟨#[]⟩, 0, false)) else (⟨#[]⟩, 0, false)
theorem ext_drop {l : List UInt8} {k : Nat} (hk : l.length = k + 1) : (⟨l.toArray⟩ : ByteArray).extract 0 k = ⟨l.dropLast.toArray⟩ := by
  have h := drop_last hk
  rw [ByteArray.toList_eq] at h
  have h2 : ((⟨l.toArray⟩ : ByteArray).extract 0 k).data = l.dropLast.toArray := Array.ext' (by rw [h])
  generalize ((⟨l.toArray⟩ : ByteArray).extract 0 k) = x at h2
  cases x
  simp only at h2
  rw [h2]
theorem names_walk (n : Int) (nm : ByteArray) (hT : TabS (heapOf W)) (hn : fits n) :
    Calls Tryd.prog 3 #[.int .i64 n, .string nm] W fun e w' => e = .returned (.bool true) ∧ Below W.heap.size W w' := by
  have HT := hid hT
  have S0 := hid (Sat.startArch W)
  clear hT
  go_enter Tryd.func3, Tryd.ntmps3
  go_wp2_with fail
  refine (fs_any S0.out).mono ?_
  rintro e w1 ⟨fb, rfl, s1⟩
  have S1 := hid s1
  clear s1 S0
  by_cases hin : 0 ≤ n ∧ n < 40
  · obtain ⟨i, rfl⟩ : ∃ i : Nat, n = i := ⟨n.toNat, by omega⟩
    have hi : i < 40 := by omega
    obtain ⟨l, hl⟩ : ∃ l, nmL[i]? = some l := ⟨_, List.getElem?_eq_getElem (by rw [nmL_len]; exact hi)⟩
    have hlen : 2 ≤ l.length := by
      have := (nm_ne ⟨i, hi⟩).1
      simp only at this
      rwa [(List.getElem?_eq_some_iff.1 hl).2] at this
    obtain ⟨k, hk⟩ : ∃ k, l.length = k + 1 := ⟨l.length - 1, by omega⟩
    have hd9 : 0 ≤ digL l ∧ digL l ≤ 9 := by
      have := dig_all ⟨i, hi⟩
      simp only at this
      rwa [(List.getElem?_eq_some_iff.1 hl).2] at this
    have hdig : ((l[k]'(by omega)).toNat : Int) = digL l + 48 := by
      have hg : l.getLast? = some (l[k]'(by omega)) := by
        rw [List.getLast?_eq_getElem?]
        simp only [hk, Nat.add_sub_cancel]
        exact List.getElem?_eq_getElem _
      unfold digL
      rw [hg]
      show _ = ((l[k]'(by omega)).toNat : Int) - 48 + 48
      omega
    have HN := hid (name_ok HT.out S1.out.swap i l k hk hl (digL l) hdig hd9)
    rw [ext_drop hk] at HN
    have HL := hid hl
    obtain ⟨d, HD⟩ : ∃ d, Hid (digL l = d) := ⟨_, hid rfl⟩
    obtain ⟨s, HS⟩ : ∃ s : ByteArray, Hid (⟨l.dropLast.toArray⟩ = s) := ⟨_, hid rfl⟩
    rw [HD.out, HS.out] at HN
    clear hl hlen hk hd9 hdig hin
    go_wp2_with fail
    refine HN.out.mono ?_
    rintro e w2 ⟨rfl, s2⟩
    have S2 := hid s2.swap
    have c0 : World.cell? w2 ⟨fb, i * 2, none⟩ = some (.string s) := by rw [S2.out.cell, List.getElem?_toArray, (fsV_at HL.out).1, HS.out]
    have c1 : World.cell? w2 ⟨fb, i * 2 + 1, none⟩ = some (.int .i64 d) := by rw [S2.out.cell, List.getElem?_toArray, (fsV_at HL.out).2, HD.out]
    have hi0 : (0 : Int) ≤ (i : Int) := by omega
    have hi1 : (i : Int) < 40 := by omega
    clear s2 HN S1
    go_wp2_with fail
    clear c0 c1 hi0 hi1
    go_loopw [10, 11] (fun wv iv wr => ∃ (j : Nat) (want : Int), j ≤ 40 ∧ iv = .int .i64 j ∧ wv = .int .i64 want ∧ Hid ((want = -1 ∧ ∀ (k : Nat) (l' : List UInt8), k < j → nmL[k]? = some l' → l'.dropLast ≠ nm.data.toList) ∨ ∃ (k : Nat) (l' : List UInt8), k < j ∧ nmL[k]? = some l' ∧ l'.dropLast = nm.data.toList ∧ want = k) ∧ Hid (Sat W wr (blk fb (.cells fsV.toArray 27 (0, 0)) :: arch (heapOf W) :: []))) (fun _ iv _ => 40 - (intOf iv).toNat)
    case atStart => exact ⟨0, -1, Nat.zero_le _, rfl, rfl, hid (.inl ⟨rfl, fun k l' hk => by omega⟩), S2⟩
    case round =>
      obtain ⟨j, want, hj, rfl, rfl, HW, S⟩ := hrel
      clear S2
      by_cases hlt : j < 40
      · obtain ⟨l', hl'⟩ : ∃ l', nmL[j]? = some l' := ⟨_, List.getElem?_eq_getElem (by rw [nmL_len]; exact hlt)⟩
        obtain ⟨s', HS'⟩ : ∃ s : ByteArray, Hid (⟨l'.dropLast.toArray⟩ = s) := ⟨_, hid rfl⟩
        have hs' : s'.toList = l'.dropLast := by rw [← HS'.out, ByteArray.toList_eq]
        have c0 : World.cell? wr ⟨fb, j * 2, none⟩ = some (.string s') := by rw [S.out.cell, List.getElem?_toArray, (fsV_at hl').1, HS'.out]
        have hj0 : (0 : Int) ≤ (j : Int) := by omega
        have hj1 : (j : Int) < 40 := by omega
        have HL2 := hid hl'
        clear hl'
        by_cases heq : l'.dropLast = nm.data.toList
        · have hq : (s'.toList == nm.toList) = true := by rw [hs', ByteArray.toList_eq]; simpa using heq
          have HE := hid heq
          clear heq hs'
          go_wp2_with fail
          go_roundw
          case rel => exact ⟨j + 1, j, by omega, by go_num, rfl, hid (.inr ⟨j, l', by omega, HL2.out, HE.out, rfl⟩), S⟩
          case measure => simp [intOf]; omega
        · have hq : (s'.toList == nm.toList) = false := by rw [hs', ByteArray.toList_eq]; simpa using heq
          have HE := hid heq
          clear heq hs'
          go_wp2_with fail
          go_roundw
          case rel => exact ⟨j + 1, want, by omega, by go_num, rfl, hid (by
            rcases HW.out with ⟨hw, hall⟩ | ⟨k2, l2, hk2, hl2, hd2, hw⟩
            · refine .inl ⟨hw, fun k l2 hk hl2 => ?_⟩
              by_cases hkj : k = j
              · subst hkj; rw [HL2.out] at hl2; cases hl2; exact HE.out
              · exact hall k l2 (by omega) hl2
            · exact .inr ⟨k2, l2, by omega, hl2, hd2, hw⟩), S⟩
          case measure => simp [intOf]; omega
      · obtain rfl : j = 40 := by omega
        have hwant : numOf nm = want := by
          rcases HW.out with ⟨hw, hall⟩ | ⟨k2, l2, hk2, hl2, hd2, hw⟩
          · rw [hw]; exact num_none (fun k l2 hl2 => hall k l2 (by have := (List.getElem?_eq_some_iff.1 hl2).1; rw [nmL_len] at this; exact this) hl2)
          · rw [hw]; exact num_found hl2 hd2 (fun k l3 hk hl3 e3 => by
              have := nm_inj' hl3 hl2 (e3.trans hd2.symm)
              omega)
        have HNU := hid (number_any HT.out S.out.swap nm)
        rw [hwant] at HNU
        clear hwant HW
        go_wp2_with fail
        refine HNU.out.mono ?_
        rintro e w3 ⟨rfl, s3⟩
        have HA := hid (awake8 HT.out s3)
        clear s3 HNU
        go_wp2_with fail
        refine HA.out.mono ?_
        rintro e w4 ⟨h4, rfl, l4, s4⟩
        go_wp2_with fail
        go_ret
        exact ⟨rfl, s4.archBelow l4⟩
  · have hb : n < 0 ∨ 40 ≤ n := by omega
    have HN := hid (name_bad HT.out S1.out.swap n hb)
    rcases hb with hb | hb
    · have b1 : decide (0 ≤ n) = false := by simpa using hb
      clear hin
      go_wp2_with fail
      refine HN.out.mono ?_
      rintro e w2 ⟨rfl, s2⟩
      have S2 := hid s2.swap
      clear s2 HN S1
      go_wp2_with fail
      go_loopw [10, 11] (fun wv iv wr => ∃ (j : Nat) (want : Int), j ≤ 40 ∧ iv = .int .i64 j ∧ wv = .int .i64 want ∧ Hid ((want = -1 ∧ ∀ (k : Nat) (l' : List UInt8), k < j → nmL[k]? = some l' → l'.dropLast ≠ nm.data.toList) ∨ ∃ (k : Nat) (l' : List UInt8), k < j ∧ nmL[k]? = some l' ∧ l'.dropLast = nm.data.toList ∧ want = k) ∧ Hid (Sat W wr (blk fb (.cells fsV.toArray 27 (0, 0)) :: arch (heapOf W) :: []))) (fun _ iv _ => 40 - (intOf iv).toNat)
      case atStart => exact ⟨0, -1, Nat.zero_le _, rfl, rfl, hid (.inl ⟨rfl, fun k l' hk => by omega⟩), S2⟩
      case round =>
        obtain ⟨j, want, hj, rfl, rfl, HW, S⟩ := hrel
        clear S2
        by_cases hlt : j < 40
        · obtain ⟨l', hl'⟩ : ∃ l', nmL[j]? = some l' := ⟨_, List.getElem?_eq_getElem (by rw [nmL_len]; exact hlt)⟩
          obtain ⟨s', HS'⟩ : ∃ s : ByteArray, Hid (⟨l'.dropLast.toArray⟩ = s) := ⟨_, hid rfl⟩
          have hs' : s'.toList = l'.dropLast := by rw [← HS'.out, ByteArray.toList_eq]
          have c0 : World.cell? wr ⟨fb, j * 2, none⟩ = some (.string s') := by rw [S.out.cell, List.getElem?_toArray, (fsV_at hl').1, HS'.out]
          have hj0 : (0 : Int) ≤ (j : Int) := by omega
          have hj1 : (j : Int) < 40 := by omega
          have HL2 := hid hl'
          clear hl'
          by_cases heq : l'.dropLast = nm.data.toList
          · have hq : (s'.toList == nm.toList) = true := by rw [hs', ByteArray.toList_eq]; simpa using heq
            have HE := hid heq
            clear heq hs'
            go_wp2_with fail
            go_roundw
            case rel => exact ⟨j + 1, j, by omega, by go_num, rfl, hid (.inr ⟨j, l', by omega, HL2.out, HE.out, rfl⟩), S⟩
            case measure => simp [intOf]; omega
          · have hq : (s'.toList == nm.toList) = false := by rw [hs', ByteArray.toList_eq]; simpa using heq
            have HE := hid heq
            clear heq hs'
            go_wp2_with fail
            go_roundw
            case rel => exact ⟨j + 1, want, by omega, by go_num, rfl, hid (by
              rcases HW.out with ⟨hw, hall⟩ | ⟨k2, l2, hk2, hl2, hd2, hw⟩
              · refine .inl ⟨hw, fun k l2 hk hl2 => ?_⟩
                by_cases hkj : k = j
                · subst hkj; rw [HL2.out] at hl2; cases hl2; exact HE.out
                · exact hall k l2 (by omega) hl2
              · exact .inr ⟨k2, l2, by omega, hl2, hd2, hw⟩), S⟩
            case measure => simp [intOf]; omega
        · obtain rfl : j = 40 := by omega
          have hwant : numOf nm = want := by
            rcases HW.out with ⟨hw, hall⟩ | ⟨k2, l2, hk2, hl2, hd2, hw⟩
            · rw [hw]; exact num_none (fun k l2 hl2 => hall k l2 (by have := (List.getElem?_eq_some_iff.1 hl2).1; rw [nmL_len] at this; exact this) hl2)
            · rw [hw]; exact num_found hl2 hd2 (fun k l3 hk hl3 e3 => by
                have := nm_inj' hl3 hl2 (e3.trans hd2.symm)
                omega)
          have HNU := hid (number_any HT.out S.out.swap nm)
          rw [hwant] at HNU
          clear hwant HW
          go_wp2_with fail
          refine HNU.out.mono ?_
          rintro e w3 ⟨rfl, s3⟩
          have HA := hid (awake8 HT.out s3)
          clear s3 HNU
          go_wp2_with fail
          refine HA.out.mono ?_
          rintro e w4 ⟨h4, rfl, l4, s4⟩
          go_wp2_with fail
          go_ret
          exact ⟨rfl, s4.archBelow l4⟩
    · have b1 : decide (0 ≤ n) = true := by simpa using (show 0 ≤ n by omega)
      have b2 : decide (n < 40) = false := by simpa using hb
      clear hin
      go_wp2_with fail
      refine HN.out.mono ?_
      rintro e w2 ⟨rfl, s2⟩
      have S2 := hid s2.swap
      clear s2 HN S1
      go_wp2_with fail
      go_loopw [10, 11] (fun wv iv wr => ∃ (j : Nat) (want : Int), j ≤ 40 ∧ iv = .int .i64 j ∧ wv = .int .i64 want ∧ Hid ((want = -1 ∧ ∀ (k : Nat) (l' : List UInt8), k < j → nmL[k]? = some l' → l'.dropLast ≠ nm.data.toList) ∨ ∃ (k : Nat) (l' : List UInt8), k < j ∧ nmL[k]? = some l' ∧ l'.dropLast = nm.data.toList ∧ want = k) ∧ Hid (Sat W wr (blk fb (.cells fsV.toArray 27 (0, 0)) :: arch (heapOf W) :: []))) (fun _ iv _ => 40 - (intOf iv).toNat)
      case atStart => exact ⟨0, -1, Nat.zero_le _, rfl, rfl, hid (.inl ⟨rfl, fun k l' hk => by omega⟩), S2⟩
      case round =>
        obtain ⟨j, want, hj, rfl, rfl, HW, S⟩ := hrel
        clear S2
        by_cases hlt : j < 40
        · obtain ⟨l', hl'⟩ : ∃ l', nmL[j]? = some l' := ⟨_, List.getElem?_eq_getElem (by rw [nmL_len]; exact hlt)⟩
          obtain ⟨s', HS'⟩ : ∃ s : ByteArray, Hid (⟨l'.dropLast.toArray⟩ = s) := ⟨_, hid rfl⟩
          have hs' : s'.toList = l'.dropLast := by rw [← HS'.out, ByteArray.toList_eq]
          have c0 : World.cell? wr ⟨fb, j * 2, none⟩ = some (.string s') := by rw [S.out.cell, List.getElem?_toArray, (fsV_at hl').1, HS'.out]
          have hj0 : (0 : Int) ≤ (j : Int) := by omega
          have hj1 : (j : Int) < 40 := by omega
          have HL2 := hid hl'
          clear hl'
          by_cases heq : l'.dropLast = nm.data.toList
          · have hq : (s'.toList == nm.toList) = true := by rw [hs', ByteArray.toList_eq]; simpa using heq
            have HE := hid heq
            clear heq hs'
            go_wp2_with fail
            go_roundw
            case rel => exact ⟨j + 1, j, by omega, by go_num, rfl, hid (.inr ⟨j, l', by omega, HL2.out, HE.out, rfl⟩), S⟩
            case measure => simp [intOf]; omega
          · have hq : (s'.toList == nm.toList) = false := by rw [hs', ByteArray.toList_eq]; simpa using heq
            have HE := hid heq
            clear heq hs'
            go_wp2_with fail
            go_roundw
            case rel => exact ⟨j + 1, want, by omega, by go_num, rfl, hid (by
              rcases HW.out with ⟨hw, hall⟩ | ⟨k2, l2, hk2, hl2, hd2, hw⟩
              · refine .inl ⟨hw, fun k l2 hk hl2 => ?_⟩
                by_cases hkj : k = j
                · subst hkj; rw [HL2.out] at hl2; cases hl2; exact HE.out
                · exact hall k l2 (by omega) hl2
              · exact .inr ⟨k2, l2, by omega, hl2, hd2, hw⟩), S⟩
            case measure => simp [intOf]; omega
        · obtain rfl : j = 40 := by omega
          have hwant : numOf nm = want := by
            rcases HW.out with ⟨hw, hall⟩ | ⟨k2, l2, hk2, hl2, hd2, hw⟩
            · rw [hw]; exact num_none (fun k l2 hl2 => hall k l2 (by have := (List.getElem?_eq_some_iff.1 hl2).1; rw [nmL_len] at this; exact this) hl2)
            · rw [hw]; exact num_found hl2 hd2 (fun k l3 hk hl3 e3 => by
                have := nm_inj' hl3 hl2 (e3.trans hd2.symm)
                omega)
          have HNU := hid (number_any HT.out S.out.swap nm)
          rw [hwant] at HNU
          clear hwant HW
          go_wp2_with fail
          refine HNU.out.mono ?_
          rintro e w3 ⟨rfl, s3⟩
          have HA := hid (awake8 HT.out s3)
          clear s3 HNU
          go_wp2_with fail
          refine HA.out.mono ?_
          rintro e w4 ⟨h4, rfl, l4, s4⟩
          go_wp2_with fail
          go_ret
          exact ⟨rfl, s4.archBelow l4⟩
end
#print axioms names_walk
end Go.Proofs.YtlgogflhjpcmlaaDoor
