/-
  troupelaw00.Same, SameAll: two copies of one term are the same.
-/
import Derived.Test.YteaabbghnfideaaDoorTCmpW
import Derived.WalkSpells
namespace Go.Proofs.YteaabbghnfideaaDoor
open Go.RowKit
set_option maxHeartbeats 4000000
set_option maxRecDepth 100000

def SameC (t : T) : Prop := ∀ (W w : World) (L : List HP) (h : Nat → Option Obj) (vs us : List Value), Sat W w (arch h :: L) → TIn h t vs → TIn h t us →
  Calls Tryd.prog 30 #[.agg vs.toArray, .agg us.toArray] w fun e w' => e = .returned (.bool true) ∧ Sat W w' (arch h :: L)

section
variable {W w : World} {L : List HP} {h : Nat → Option Obj}
theorem sameAll_of (S : Sat W w (arch h :: L)) (ts : List T) (a b : Option Addr) (n c d : Nat) (hn : n = ts.length) (ha : LIn h ts a 0) (hb : LIn h ts b 0) (hn9 : n ≤ 1353245080300) (ih : ∀ t ∈ ts, SameC t) :
    Calls Tryd.prog 53 #[.slice a n c, .slice b n d] w fun e w' => e = .returned (.bool true) ∧ Sat W w' (arch h :: L) := by
  have HN := hid hn
  have HA := hid ha
  have HB := hid hb
  have IH := hid ih
  have S1 := hid S
  have hd0 : ((n : Int) != n) = false := by simp
  clear hn ha hb ih S
  go_enter Tryd.func53, Tryd.ntmps53
  go_wp2_with fail
  go_loopw [5] (fun iv wr => ∃ i : Nat, i ≤ n ∧ iv = .int .i64 i ∧ Hid (Sat W wr (arch h :: L))) (fun iv _ => n - (intOf iv).toNat)
  case atStart => exact ⟨0, Nat.zero_le _, rfl, S1⟩
  case round =>
    obtain ⟨i, hi, rfl, S⟩ := hrel
    clear S1
    by_cases hlt : i < n
    · obtain ⟨t, ht⟩ : ∃ t, ts[i]? = some t := ⟨_, List.getElem?_eq_getElem (by have := HN.out; omega)⟩
      obtain ⟨gx, ox, xs, rfl, hcx', hinx⟩ := HA.out.get ht
      obtain ⟨gy, oy, ys, rfl, hcy', hiny⟩ := HB.out.get ht
      obtain ⟨ia1, ic1, ra1, rc1, ba1, bc1, rfl, _⟩ := id hinx.vals
      obtain ⟨ia2, ic2, ra2, rc2, ba2, bc2, rfl, _⟩ := id hiny.vals
      have HIC := hid (IH.out t (List.mem_of_getElem? ht) W _ _ _ _ _ S.out.drew hinx hiny)
      have sA := S.out
      have k0 := sA.cellIn (hcx' 0 _ rfl)
      have k1 := sA.cellIn (hcx' 1 _ rfl)
      have k2 := sA.cellIn (hcx' 2 _ rfl)
      have k3 := sA.cellIn (hcx' 3 _ rfl)
      have k4 := sA.cellIn (hcx' 4 _ rfl)
      have k5 := sA.cellIn (hcx' 5 _ rfl)
      have l0 := sA.cellIn (hcy' 0 _ rfl)
      have l1 := sA.cellIn (hcy' 1 _ rfl)
      have l2 := sA.cellIn (hcy' 2 _ rfl)
      have l3 := sA.cellIn (hcy' 3 _ rfl)
      have l4 := sA.cellIn (hcy' 4 _ rfl)
      have l5 := sA.cellIn (hcy' 5 _ rfl)
      rw [Nat.zero_add] at k0 k1 k2 k3 k4 k5 l0 l1 l2 l3 l4 l5
      rw [Nat.add_zero] at k0 l0
      have hi1 : (i : Int) < n := by omega
      unfold tVals at HIC
      clear sA hcx' hcy' hinx hiny ht
      go_wp2_with fail
      go_region_law (go_simp; go_at_call 30; refine HIC.out.mono ?_; rintro e w3 ⟨rfl, s3⟩; have S6 := hid s3; clear s3)
      all_goals clear k0 k1 k2 k3 k4 k5 l0 l1 l2 l3 l4 l5 HIC S
      all_goals
        go_wp2_with fail
        go_roundw
        case rel => exact ⟨i + 1, by omega, by go_num, S6⟩
        case measure => simp [intOf]; omega
    · obtain rfl : i = n := by omega
      go_wp2_with fail
      go_ret
      exact ⟨rfl, S.out⟩
theorem same_step (t : T) (hok : TOk t) (ih1 : ∀ x ∈ t.is, SameC x) (ih2 : ∀ x ∈ t.rs, SameC x) : SameC t := by
  intro W w L h vs us S hin hiu
  obtain ⟨ia, ic, ra, rc, ba, bc, rfl, q1, q2, q3, _⟩ := hin.vals
  obtain ⟨ia', ic', ra', rc', ba', bc', rfl, p1, p2, p3, _⟩ := hiu.vals
  have hf := hok.fit
  obtain ⟨x, hx⟩ : ∃ x, strOfNums t.bs = x := ⟨_, rfl⟩
  have S1 := hid (((S.allocAt (k := w.heap.size) (.cells (tVals t ia ic ra rc ba bc).toArray 25) rfl).allocAt (k := w.heap.size + 1) (.cells (tVals t ia' ic' ra' rc' ba' bc').toArray 25) (by simp)).rot3)
  have v1 := fun dst hd => conv_rd (P := Tryd.prog) (src := 23) (dst := dst) (c := bc) Tryd.underlying23 Tryd.underlying5 hd (n := t.bs.length) rfl (S1.out.archRd q3)
  have v2 := fun dst hd => conv_rd (P := Tryd.prog) (src := 23) (dst := dst) (c := bc') Tryd.underlying23 Tryd.underlying5 hd (n := t.bs.length) rfl (S1.out.archRd p3)
  rw [hx] at v1 v2
  have H1 := hid (sameAll_of S1.out t.is ia ia' t.is.length ic ic' rfl q1 p1 hf.is ih1)
  have Q2 := hid q2
  have P2 := hid p2
  have HF := hid hf
  have IH2 := hid ih2
  clear hx S hin hiu q1 q2 q3 p1 p2 p3 hok hf ih1 ih2
  unfold tVals at S1 v1 v2 H1 ⊢
  go_enter Tryd.func30, Tryd.ntmps30
  go_wp2_with fail
  refine H1.out.mono ?_
  rintro e w2 ⟨rfl, s2⟩
  have S2 := hid s2
  have e4 : w2.cell? ⟨w.heap.size + 1, 4, none⟩ = some (.slice ra' t.rs.length rc') := s2.swap.cell 4
  have d4 : w2.cell? ⟨w.heap.size, 4, none⟩ = some (.slice ra t.rs.length rc) := s2.rot3.cell 4
  have H2 := hid (sameAll_of s2 t.rs ra ra' t.rs.length rc rc' rfl Q2.out P2.out HF.out.rs IH2.out)
  clear s2 H1
  go_wp2_with fail
  refine H2.out.mono ?_
  rintro e w3 ⟨rfl, s3⟩
  have S3 := hid s3
  clear s3 H2
  go_wp2_with fail
  go_ret
  exact ⟨rfl, S3.out.swap.drop.swap.drop⟩
theorem same_t (t : T) : TOk t → SameC t := by
  induction t using T.ind with
  | h k n nm is rs bs ih1 ih2 =>
    intro hok
    have hf := hok.fit
    exact same_step _ hok (fun x hx => ih1 x hx (hf.si x hx)) (fun x hx => ih2 x hx (hf.sr x hx))
theorem sameAll_t (S : Sat W w (arch h :: L)) (ts : List T) (a b : Option Addr) (n c d : Nat) (hn : n = ts.length) (ha : LIn h ts a 0) (hb : LIn h ts b 0) (hn9 : n ≤ 1353245080300) (hok : ∀ t ∈ ts, TOk t) :
    Calls Tryd.prog 53 #[.slice a n c, .slice b n d] w fun e w' => e = .returned (.bool true) ∧ Sat W w' (arch h :: L) :=
  sameAll_of S ts a b n c d hn ha hb hn9 fun t ht => same_t t (hok t ht)
end
#print axioms same_t
end Go.Proofs.YteaabbghnfideaaDoor
