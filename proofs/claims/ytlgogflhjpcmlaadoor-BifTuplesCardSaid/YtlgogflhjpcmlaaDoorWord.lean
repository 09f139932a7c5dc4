/-
  letter, digit, odd, word: bytes of names.
-/
import Derived.Test.YtlgogflhjpcmlaaDoorTCopy
import Derived.LoopTactic
namespace Go.Proofs.YtlgogflhjpcmlaaDoor
open Go.RowKit
set_option maxHeartbeats 2000000

def letB (b : Int) : Bool := decide (97 ≤ b ∧ b ≤ 122)
def digB (b : Int) : Bool := decide (48 ≤ b ∧ b ≤ 57)
def oddB (b : Int) : Bool := decide (b < 32 ∨ 126 < b)
theorem letter_any (b : Int) (w : World) : Calls Tryd.prog 87 #[.int .u8 b] w fun e w' => e = .returned (.bool (letB b)) ∧ w = w' := by
  rcases (show ¬ 97 ≤ b ∨ (97 ≤ b ∧ ¬ b ≤ 122) ∨ (97 ≤ b ∧ b ≤ 122) by omega) with h1 | ⟨h1, h2⟩ | ⟨h1, h2⟩
  · have hb : letB b = false := decide_eq_false (by omega)
    have hd : decide (97 ≤ b) = false := decide_eq_false h1
    rw [hb]
    go_enter Tryd.func87, Tryd.ntmps87
    go_wp2_with fail
    go_ret
    exact ⟨rfl, rfl⟩
  · have hb : letB b = false := decide_eq_false (by omega)
    have hd : decide (b ≤ 122) = false := decide_eq_false h2
    rw [hb]
    go_enter Tryd.func87, Tryd.ntmps87
    go_wp2_with fail
    go_ret
    exact ⟨rfl, rfl⟩
  · have hb : letB b = true := decide_eq_true (by omega)
    have hd : decide (b ≤ 122) = true := decide_eq_true h2
    rw [hb]
    go_enter Tryd.func87, Tryd.ntmps87
    go_wp2_with fail
    go_ret
    exact ⟨rfl, rfl⟩
theorem digit_any (b : Int) (w : World) : Calls Tryd.prog 88 #[.int .u8 b] w fun e w' => e = .returned (.bool (digB b)) ∧ w = w' := by
  rcases (show ¬ 48 ≤ b ∨ (48 ≤ b ∧ ¬ b ≤ 57) ∨ (48 ≤ b ∧ b ≤ 57) by omega) with h1 | ⟨h1, h2⟩ | ⟨h1, h2⟩
  · have hb : digB b = false := decide_eq_false (by omega)
    have hd : decide (48 ≤ b) = false := decide_eq_false h1
    rw [hb]
    go_enter Tryd.func88, Tryd.ntmps88
    go_wp2_with fail
    go_ret
    exact ⟨rfl, rfl⟩
  · have hb : digB b = false := decide_eq_false (by omega)
    have hd : decide (b ≤ 57) = false := decide_eq_false h2
    rw [hb]
    go_enter Tryd.func88, Tryd.ntmps88
    go_wp2_with fail
    go_ret
    exact ⟨rfl, rfl⟩
  · have hb : digB b = true := decide_eq_true (by omega)
    have hd : decide (b ≤ 57) = true := decide_eq_true h2
    rw [hb]
    go_enter Tryd.func88, Tryd.ntmps88
    go_wp2_with fail
    go_ret
    exact ⟨rfl, rfl⟩
theorem odd_any (b : Int) (w : World) : Calls Tryd.prog 89 #[.int .u8 b] w fun e w' => e = .returned (.bool (oddB b)) ∧ w = w' := by
  rcases (show b < 32 ∨ (¬ b < 32 ∧ ¬ 126 < b) ∨ (¬ b < 32 ∧ 126 < b) by omega) with h1 | ⟨h1, h2⟩ | ⟨h1, h2⟩
  · have hb : oddB b = true := decide_eq_true (by omega)
    have hd : decide (b < 32) = true := decide_eq_true h1
    rw [hb]
    go_enter Tryd.func89, Tryd.ntmps89
    go_wp2_with fail
    go_ret
    exact ⟨rfl, rfl⟩
  · have hb : oddB b = false := decide_eq_false (by omega)
    have hd : decide (126 < b) = false := decide_eq_false h2
    rw [hb]
    go_enter Tryd.func89, Tryd.ntmps89
    go_wp2_with fail
    go_ret
    exact ⟨rfl, rfl⟩
  · have hb : oddB b = true := decide_eq_true (by omega)
    have hd : decide (126 < b) = true := decide_eq_true h2
    rw [hb]
    go_enter Tryd.func89, Tryd.ntmps89
    go_wp2_with fail
    go_ret
    exact ⟨rfl, rfl⟩
/-- a name's bytes -/
def byts (s : ByteArray) : List Int := s.data.toList.map fun b => (b.toNat : Int)
theorem byts_len (s : ByteArray) : (byts s).length = s.size := by simp [byts]
theorem byts_get {s : ByteArray} {k : Nat} (h : k < s.size) : (byts s)[k]? = some ((s[k]).toNat : Int) := by
  unfold byts
  rw [List.getElem?_map, List.getElem?_eq_getElem (by simpa using h)]
  rfl
def wOk (i : Nat) (c : Int) : Bool := letB c || (decide (i ≠ 0) && (digB c || decide (c = 95)))
def wordFrom : Nat → List Int → Bool
  | _, [] => true
  | i, c :: cs => wOk i c && wordFrom (i + 1) cs
def wordB (s : ByteArray) : Bool := !(byts s).isEmpty && wordFrom 0 (byts s)
theorem wordFrom_step {s : ByteArray} {k : Nat} (h : k < s.size) : wordFrom k ((byts s).drop k) = (wOk k ((s[k]).toNat : Int) && wordFrom (k + 1) ((byts s).drop (k + 1))) := by
  have hd : (byts s).drop k = ((s[k]).toNat : Int) :: (byts s).drop (k + 1) := by
    rw [List.drop_eq_getElem_cons (by rw [byts_len]; exact h)]
    congr 1
    have := byts_get h
    rw [List.getElem?_eq_getElem (by rw [byts_len]; exact h)] at this
    exact Option.some.inj this
  rw [hd]
  rfl
set_option maxRecDepth 100000 in
theorem word_any (s : ByteArray) (w : World) (hs : s.size ≤ 140737488351232) : Calls Tryd.prog 80 #[.string s] w fun e w' => e = .returned (.bool (wordB s)) ∧ w = w' := by
  obtain ⟨r, HR⟩ : ∃ r, Hid (wordB s = r) := ⟨_, hid rfl⟩
  rw [HR.out]
  go_enter Tryd.func80, Tryd.ntmps80
  go_wp2_with fail
  go_loopw [6] (fun iv wr => ∃ k : Nat, k ≤ s.size ∧ iv = .int .i64 k ∧ Hid (wordFrom 0 (byts s) = wordFrom k ((byts s).drop k)) ∧ w = wr) (fun iv _ => s.size - (intOf iv).toNat)
  case atStart => exact ⟨0, Nat.zero_le _, rfl, hid rfl, rfl⟩
  case round =>
    obtain ⟨k, hk, rfl, HW, rfl⟩ := hrel
    by_cases hlt : k < s.size
    · have hstep := wordFrom_step hlt
      have HST := hid hstep
      obtain ⟨c, HC⟩ : ∃ c : Int, Hid (((s[k]).toNat : Int) = c) := ⟨_, hid rfl⟩
      have hc0 : 0 ≤ ((s[k]).toNat : Int) ∧ ((s[k]).toNat : Int) ≤ 255 := by have := (s[k]).toNat_lt; omega
      clear hstep
      go_wp2_with fail
      rw [HC.out] at hc0 ⊢
      refine (letter_any c w).mono ?_
      rintro e w1 ⟨rfl, rfl⟩
      cases hl : letB c with
      | true =>
        have hgo : wordFrom 0 (byts s) = wordFrom (k + 1) ((byts s).drop (k + 1)) := by rw [HW.out, HST.out, HC.out]; simp [wOk, hl]
        have HG := hid hgo
        clear hgo hl
        go_wp2_with fail
        go_roundw
        case rel => exact ⟨k + 1, by omega, by go_num, HG, trivial⟩
        case measure => simp [intOf]; omega
      | false =>
        by_cases hk0 : k = 0
        · subst hk0
          have hno : r = false := by
            rw [← HR.out]
            have : wordFrom 0 (byts s) = false := by rw [HW.out, HST.out, HC.out]; simp [wOk, hl]
            simp [wordB, this]
          have HNO := hid hno
          clear hno hl
          go_wp2_with fail
          go_ret
          exact ⟨by rw [HNO.out]; rfl, rfl⟩
        · have hkb : ((k : Int) == 0) = false := by simp; omega
          go_wp2_with fail
          rw [HC.out]
          refine (digit_any c w).mono ?_
          rintro e w1 ⟨rfl, rfl⟩
          cases hd : digB c with
          | true =>
            have hgo : wordFrom 0 (byts s) = wordFrom (k + 1) ((byts s).drop (k + 1)) := by rw [HW.out, HST.out, HC.out]; simp [wOk, hl, hd, hk0]
            have HG := hid hgo
            clear hgo hl hd
            go_wp2_with fail
            go_roundw
            case rel => exact ⟨k + 1, by omega, by go_num, HG, trivial⟩
            case measure => simp [intOf]; omega
          | false =>
            by_cases h95 : c = 95
            · have hgo : wordFrom 0 (byts s) = wordFrom (k + 1) ((byts s).drop (k + 1)) := by rw [HW.out, HST.out, HC.out]; simp [wOk, hk0, h95]
              have HG := hid hgo
              have hcb : (((s[k]).toNat : Int) != 95) = false := by rw [HC.out, h95]; rfl
              clear hgo hl hd h95
              go_wp2_with fail
              go_roundw
              case rel => exact ⟨k + 1, by omega, by go_num, HG, trivial⟩
              case measure => simp [intOf]; omega
            · have hno : r = false := by
                rw [← HR.out]
                have : wordFrom 0 (byts s) = false := by rw [HW.out, HST.out, HC.out]; simp [wOk, hl, hd, hk0, h95]
                simp [wordB, this]
              have HNO := hid hno
              have hcb : (((s[k]).toNat : Int) != 95) = true := by rw [HC.out]; simpa using h95
              clear hno hl hd h95
              go_wp2_with fail
              go_ret
              exact ⟨by rw [HNO.out]; rfl, rfl⟩
    · obtain rfl : k = s.size := by omega
      have hend : wordFrom 0 (byts s) = true := by rw [HW.out, List.drop_of_length_le (by rw [byts_len]; exact Nat.le_refl _)]; rfl
      have HE := hid hend
      clear hend
      by_cases h0 : s.size = 0
      · have hr : r = false := by
          rw [← HR.out]
          have : byts s = [] := List.eq_nil_of_length_eq_zero (by rw [byts_len, h0])
          simp [wordB, this]
        have HR2 := hid hr
        have hse : s = ByteArray.empty := by
          obtain ⟨⟨l⟩⟩ := s
          cases l with
          | nil => rfl
          | cons a l => simp [ByteArray.size] at h0
        subst hse
        clear hr
        go_wp2_with fail
        go_ret
        exact ⟨by rw [HR2.out]; rfl, rfl⟩
      · have hr : r = true := by
          rw [← HR.out]
          have h1 : (byts s).isEmpty = false := by
            cases hb : byts s with
            | nil => have := byts_len s; rw [hb] at this; simp at this; omega
            | cons a l => rfl
          simp [wordB, HE.out, h1]
        have HR2 := hid hr
        have h2 : ¬ s.toList = [] := fun q => h0 (by
          have : s.data.toList = [] := by rw [← ByteArray.toList_eq]; exact q
          obtain ⟨⟨l⟩⟩ := s
          simp only at this
          subst this
          rfl)
        have h3 : s.toList.isEmpty = false := by cases hl : s.toList <;> simp_all
        clear hr
        go_wp2_with fail
        go_ret
        exact ⟨by rw [HR2.out]; rfl, rfl⟩
end Go.Proofs.YtlgogflhjpcmlaaDoor
