/-
  The document's texts (trouperef02): Dec, bare, Name.
-/
import Derived.Test.YteaabbghnfideaaDoorTold
namespace Go.Proofs.YteaabbghnfideaaDoor
open Go.RowKit
set_option maxHeartbeats 2000000
set_option maxRecDepth 100000

def dgs (u : Nat) : List Int := (Lib.decDigits u).map fun b => (b.toNat : Int)
theorem num_neg {n : Int} (h : n < 0) : num n = 45 :: dgs n.natAbs := by unfold num Lib.itoa; rw [if_pos h]; rfl
theorem num_pos {n : Int} (h : ¬ n < 0) : num n = dgs n.toNat := by unfold num Lib.itoa; rw [if_neg h]; rfl
theorem dgs_one {u : Nat} (h : u < 10) : dgs u = [48 + (u : Int)] := by
  unfold dgs
  rw [Lib.decDigits_one h]
  simp
  omega
theorem dgs_step {u : Nat} (h : ¬ u < 10) : dgs u = dgs (u / 10) ++ [48 + ((u % 10 : Nat) : Int)] := by
  unfold dgs
  conv => lhs; rw [Lib.decDigits, dif_neg h]
  rw [List.map_append]
  congr 1
  simp
  omega
/-- what is told yet: u is left, s stands behind -/
def dgR (u : Nat) (s : ByteArray) : List Int := if u = 0 ∧ s.size ≠ 0 then byts s else dgs u ++ byts s
theorem byts_app (a b : ByteArray) : byts (a ++ b) = byts a ++ byts b := by
  unfold byts
  rw [ByteArray.data_append]
  simp
theorem dgR_step {u : Nat} {s d : ByteArray} (h : u ≠ 0 ∨ s.size = 0) (hd : byts d = [48 + ((u % 10 : Nat) : Int)]) : dgR (u / 10) (d ++ s) = dgR u s := by
  have hs : (d ++ s).size ≠ 0 := by
    have h1 : d.size = 1 := by rw [← byts_len, hd]; rfl
    rw [ByteArray.size_append]; omega
  have hr : dgR u s = dgs u ++ byts s := by unfold dgR; rw [if_neg (by rcases h with h | h; exact fun q => h q.1; exact fun q => q.2 h)]
  rw [hr]
  unfold dgR
  by_cases q : u < 10
  · rw [if_pos ⟨by omega, hs⟩, byts_app, hd, dgs_one q, show u % 10 = u by omega]
  · rw [if_neg (by omega), byts_app, hd, dgs_step q, List.append_assoc]
theorem digs_piece {i : Nat} (h : i < 10) : (⟨#[48, 49, 50, 51, 52, 53, 54, 55, 56, 57]⟩ : ByteArray).extract i (i + 1) = ⟨#[UInt8.ofNat (48 + i)]⟩ := by
  have key : ∀ i : Fin 10, (⟨#[48, 49, 50, 51, 52, 53, 54, 55, 56, 57]⟩ : ByteArray).extract i.1 (i.1 + 1) = ⟨#[UInt8.ofNat (48 + i.1)]⟩ := by decide
  exact key ⟨i, h⟩
theorem byts_one {i : Nat} (h : i < 10) : byts ⟨#[UInt8.ofNat (48 + i)]⟩ = [48 + (i : Int)] := by
  simp [byts]
  omega
theorem dgR_nil (u : Nat) : dgR u ⟨#[]⟩ = dgs u := by
  unfold dgR
  rw [if_neg (fun q => q.2 rfl)]
  simp [byts]
theorem dgs_len {u : Nat} (hu : u ≤ 9223372036854775808) : (dgs u).length ≤ 21 := by
  have h := num_len (n := -(u : Int)) (by unfold fits; omega)
  by_cases h0 : u = 0
  · subst h0; rw [dgs_one (by omega)]; decide
  · rw [num_neg (by omega), show (-(u : Int)).natAbs = u by omega, List.length_cons] at h
    omega
theorem dgR_len (u : Nat) (s : ByteArray) : s.size ≤ (dgR u s).length := by
  unfold dgR
  split
  · rw [byts_len]; exact Nat.le_refl _
  · rw [List.length_append, byts_len]; omega
theorem dec_zero {x : UInt8} {D : List Int} (hx : byts ⟨#[x]⟩ = [48 + ((0 % 10 : Nat) : Int)]) (h : dgR (0 / 10) (⟨#[x]⟩ ++ ⟨#[]⟩) = D) : dgR 0 ⟨#[48]⟩ = D := by
  rw [← h]
  have h1 : dgR 0 ⟨#[48]⟩ = byts ⟨#[48]⟩ := by unfold dgR; rw [if_pos ⟨rfl, by decide⟩]
  have h2 : dgR (0 / 10) (⟨#[x]⟩ ++ ⟨#[]⟩) = byts (⟨#[x]⟩ ++ ⟨#[]⟩) := by unfold dgR; rw [if_pos ⟨rfl, by rw [ByteArray.size_append]; show 1 + _ ≠ 0; omega⟩]
  rw [h1, h2, byts_app, hx]
  rfl
theorem str_ne {s : ByteArray} (h : ¬ s.size = 0) : s.toList.isEmpty = false ∧ ¬ s.toList = [] := by
  have h2 : ¬ s.toList = [] := fun q => h (by
    have : s.data.toList = [] := by rw [← ByteArray.toList_eq]; exact q
    obtain ⟨⟨l⟩⟩ := s
    simp only at this
    subst this
    rfl)
  exact ⟨by cases hl : s.toList <;> simp_all, h2⟩
theorem dec_meas {u : Nat} {s d : ByteArray} {x : UInt8} (hz : u ≠ 0) (e : d = ⟨#[x]⟩) : (intOf (.int .u64 ((u : Int) / 10))).toNat + (match Value.string (d ++ s) with | .string s => if s.size = 0 then 1 else 0 | _ => 0) < (intOf (.int .u64 (u : Int))).toNat + (match Value.string s with | .string s => if s.size = 0 then 1 else 0 | _ => 0) := by
  subst e
  have h : (⟨#[x]⟩ ++ s : ByteArray).size ≠ 0 := by
    rw [ByteArray.size_append]
    show 1 + _ ≠ 0
    omega
  simp only [intOf, if_neg h]
  omega
theorem dec_any (n : Int) (hn : fits n) (w : World) : Calls Tryd.prog 75 #[.int .i64 n] w fun e w' => ∃ s, e = .returned (.string s) ∧ byts s = num n ∧ w = w' := by
  obtain ⟨h1, h2⟩ := hn
  rcases (show (∃ U : Nat, n = U ∧ U ≤ 9223372036854775807) ∨ ∃ U : Nat, n = -((U + 1 : Nat) : Int) ∧ U + 1 ≤ 9223372036854775808 by
    by_cases h : n < 0
    · exact .inr ⟨n.natAbs - 1, by omega, by omega⟩
    · exact .inl ⟨n.toNat, by omega, by omega⟩) with ⟨U, rfl, hU⟩ | ⟨U1, rfl, hU⟩
  · skip
    have h0 : ¬ ((U : Int) < 0) := by omega
    have HN : Hid (num (U : Int) = dgs U) := hid (by rw [num_pos h0]; rfl)
    have HL : Hid ((dgs U).length ≤ 21) := hid (dgs_len (by omega))
    have g1 : IntKind.u64.wrap (U : Int) = (U : Int) := by rw [IntKind.wrap_u64]; omega
    go_enter Tryd.func75, Tryd.ntmps75
    go_wp2_with fail
    go_loopw [3, 4] (fun uv sv wr => ∃ (u : Nat) (s : ByteArray), uv = .int .u64 u ∧ sv = .string s ∧ u ≤ 9223372036854775808 ∧ Hid (dgR u s = dgs U) ∧ w = wr) (fun uv sv _ => (intOf uv).toNat + (match sv with | .string s => if s.size = 0 then 1 else 0 | _ => 0))
    case atStart => exact ⟨U, ⟨#[]⟩, rfl, rfl, by omega, hid (dgR_nil U), rfl⟩
    case round =>
      obtain ⟨u, s, rfl, rfl, hu2, HR, rfl⟩ := hrel
      have hsz : s.size ≤ 21 := by have a := dgR_len u s; rw [HR.out] at a; have b := HL.out; omega
      obtain ⟨x, e1, bx⟩ : ∃ x, (⟨#[48, 49, 50, 51, 52, 53, 54, 55, 56, 57]⟩ : ByteArray).extract (u % 10) (u % 10 + 1) = ⟨#[x]⟩ ∧ byts ⟨#[x]⟩ = [48 + ((u % 10 : Nat) : Int)] := ⟨_, digs_piece (i := u % 10) (by omega), byts_one (by omega)⟩
      have HS : Hid (u ≠ 0 ∨ s.size = 0 → dgR (u / 10) (⟨#[x]⟩ ++ s) = dgs U) := hid (fun h => by rw [dgR_step h bx]; exact HR.out)
      have HX := hid bx
      clear bx
      by_cases hz : u = 0
      · subst hz
        by_cases hs : s.size = 0
        · obtain rfl : s = ⟨#[]⟩ := by
            obtain ⟨⟨l⟩⟩ := s
            cases l with
            | nil => rfl
            | cons a l => simp [ByteArray.size] at hs
          clear e1 hs
          go_wp2_with fail
          go_roundw
          case rel => exact ⟨0, ⟨#[48]⟩, rfl, rfl, by omega, hid (dec_zero HX.out (HS.out (.inr rfl))), trivial⟩
          case measure => show _ < _; decide +kernel
        · have hse2 : ¬ s = ByteArray.empty := fun h => by subst h; exact hs rfl
          obtain ⟨hse4, hse5⟩ := str_ne hs
          clear hse2
          have hend : byts s = dgs U := by have := HR.out; unfold dgR at this; rw [if_pos ⟨rfl, hs⟩] at this; exact this
          have HE := hid hend
          clear e1 hend
          go_wp2_with fail
          go_ret
          exact ⟨_, rfl, by rw [HN.out]; exact HE.out, rfl⟩
      · have d1 : decide ((u : Int) > 0) = true := by simp; omega
        go_wp2_with fail
        go_roundw
        case rel => exact ⟨u / 10, ⟨#[x]⟩ ++ s, by simp, by first | rfl | rw [e1], by omega, hid (HS.out (.inl hz)), trivial⟩
        case measure => first | exact dec_meas hz e1 | exact dec_meas hz rfl
  · skip
    obtain ⟨U, hU1⟩ : ∃ U, U = U1 + 1 := ⟨_, rfl⟩
    rw [← hU1] at hU h1 h2 ⊢
    have hU0 : 0 < U := by omega
    clear hU1
    have h0 : -(U : Int) < 0 := by omega
    have HN : Hid (num (-(U : Int)) = 45 :: dgs U) := hid (by rw [num_neg h0, show (-(U : Int)).natAbs = U by omega])
    have HL : Hid ((dgs U).length ≤ 21) := hid (dgs_len (by omega))
    have g1 : IntKind.u64.wrap (-(U : Int)) = 18446744073709551616 - (U : Int) := by rw [IntKind.wrap_u64]; omega
    have g2 : IntKind.u64.wrap (0 - (18446744073709551616 - (U : Int))) = (U : Int) := by rw [IntKind.wrap_u64]; omega
    have g3 : IntKind.u64.wrap (-(18446744073709551616 - (U : Int))) = (U : Int) := by rw [IntKind.wrap_u64]; omega
    have g4 : IntKind.u64.wrap ((U : Int) - 18446744073709551616) = (U : Int) := by rw [IntKind.wrap_u64]; omega
    go_enter Tryd.func75, Tryd.ntmps75
    go_wp2_with fail
    go_loopw [3, 4] (fun uv sv wr => ∃ (u : Nat) (s : ByteArray), uv = .int .u64 u ∧ sv = .string s ∧ u ≤ 9223372036854775808 ∧ Hid (dgR u s = dgs U) ∧ w = wr) (fun uv sv _ => (intOf uv).toNat + (match sv with | .string s => if s.size = 0 then 1 else 0 | _ => 0))
    case atStart => exact ⟨U, ⟨#[]⟩, rfl, rfl, by omega, hid (dgR_nil U), rfl⟩
    case round =>
      obtain ⟨u, s, rfl, rfl, hu2, HR, rfl⟩ := hrel
      have hsz : s.size ≤ 21 := by have a := dgR_len u s; rw [HR.out] at a; have b := HL.out; omega
      obtain ⟨x, e1, bx⟩ : ∃ x, (⟨#[48, 49, 50, 51, 52, 53, 54, 55, 56, 57]⟩ : ByteArray).extract (u % 10) (u % 10 + 1) = ⟨#[x]⟩ ∧ byts ⟨#[x]⟩ = [48 + ((u % 10 : Nat) : Int)] := ⟨_, digs_piece (i := u % 10) (by omega), byts_one (by omega)⟩
      have HS : Hid (u ≠ 0 ∨ s.size = 0 → dgR (u / 10) (⟨#[x]⟩ ++ s) = dgs U) := hid (fun h => by rw [dgR_step h bx]; exact HR.out)
      have HX := hid bx
      clear bx
      by_cases hz : u = 0
      · subst hz
        by_cases hs : s.size = 0
        · obtain rfl : s = ⟨#[]⟩ := by
            obtain ⟨⟨l⟩⟩ := s
            cases l with
            | nil => rfl
            | cons a l => simp [ByteArray.size] at hs
          clear e1 hs
          go_wp2_with fail
          go_roundw
          case rel => exact ⟨0, ⟨#[48]⟩, rfl, rfl, by omega, hid (dec_zero HX.out (HS.out (.inr rfl))), trivial⟩
          case measure => show _ < _; decide +kernel
        · have hse2 : ¬ s = ByteArray.empty := fun h => by subst h; exact hs rfl
          obtain ⟨hse4, hse5⟩ := str_ne hs
          clear hse2
          have hend : byts s = dgs U := by have := HR.out; unfold dgR at this; rw [if_pos ⟨rfl, hs⟩] at this; exact this
          have HE := hid hend
          clear e1 hend
          go_wp2_with fail
          go_ret
          exact ⟨_, rfl, by rw [HN.out, byts_app, HE.out]; rfl, rfl⟩
      · have d1 : decide ((u : Int) > 0) = true := by simp; omega
        go_wp2_with fail
        go_roundw
        case rel => exact ⟨u / 10, ⟨#[x]⟩ ++ s, by simp, by first | rfl | rw [e1], by omega, hid (HS.out (.inl hz)), trivial⟩
        case measure => first | exact dec_meas hz e1 | exact dec_meas hz rfl
#print axioms dec_any
end Go.Proofs.YteaabbghnfideaaDoor
