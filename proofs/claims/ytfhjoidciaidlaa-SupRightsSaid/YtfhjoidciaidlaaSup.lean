/-
  THE SUPERVISOR: what it is in memory, what it does (plain), the contracts of its small functions.
-/
import Derived.Test.YtfhjoidciaidlaaProg
import Derived.Test.YtfhjoidciaidlaaFlat
import Derived.Test.YtfhjoidciaidlaaQTail
import Derived.Deep.RegionLaw
import Derived.Deep.LoopGhost
import Derived.WalkSpells
namespace Go.Proofs.Ytfhjoidciaidlaa
open Go.RowKit
set_option maxHeartbeats 400000

structure Chd where
  f : ByteArray
  r : Int
  t : Int
def Chd.vals (c : Chd) : List Value := [.string c.f, .int .i64 c.r, .int .i64 c.t]
structure Kid where
  c : Chd
  up : Bool
  gone : Bool
def Kid.vals (k : Kid) : List Value := [.string k.c.f, .int .i64 k.c.r, .int .i64 k.c.t, .bool k.up, .bool k.gone]
structure Ac where
  kind : Int
  child : Int
deriving DecidableEq
def Ac.vals (a : Ac) : List Value := [.int .i64 a.kind, .int .i64 a.child]
inductive Then where
  | no
  | exit
  | all
  | rest (i : Nat)
structure Su where
  strat : Int
  m : Int
  t : Int
  kids : List Kid
  state : Int
  notes : List Int
  rl : List Nat
  stop : Int
  since : Int
  killed : Bool
  th : Then
def ints (l : List Nat) : List Int := l.map fun (i : Nat) => (i : Int)

theorem lenKid (k : Kid) : k.vals.length = 5 := rfl
theorem lenAc (k : Ac) : k.vals.length = 2 := rfl
theorem oneAc (x : Ac) : ∀ v ∈ x.vals, v.oneCell' = true := by
  intro v hv
  simp only [Ac.vals, List.mem_cons, List.not_mem_nil, or_false] at hv
  rcases hv with rfl | rfl <;> rfl
theorem oneKid (x : Kid) : ∀ v ∈ x.vals, v.oneCell' = true := by
  intro v hv
  simp only [Kid.vals, List.mem_cons, List.not_mem_nil, or_false] at hv
  rcases hv with rfl | rfl | rfl | rfl | rfl <;> rfl
def kidVals (ks : List Kid) : List Value := ks.flatMap Kid.vals
def acVals (l : List Ac) : List Value := l.flatMap Ac.vals

/-! ### what it does -/
def upAt (ks : List Kid) (i : Nat) : Bool := match ks[i]? with | some k => k.up | none => false
def goneAt (ks : List Kid) (i : Nat) : Bool := match ks[i]? with | some k => k.gone | none => false
/-- those that are up, from one on, below one -/
def upsTo (ks : List Kid) (from_ i : Nat) : List Nat := (List.range i).filter fun j => decide (from_ ≤ j) && upAt ks j
def ups (ks : List Kid) (from_ : Nat) : List Nat := upsTo ks from_ ks.length
def raise (from_ i : Nat) (ks : List Kid) : List Kid := ks.mapIdx fun j k => if from_ ≤ j ∧ j < i ∧ k.gone = false then { k with up := true } else k
def startActs (ks : List Kid) (from_ i : Nat) : List Ac := ((List.range i).filter fun j => decide (from_ ≤ j) && !goneAt ks j).map fun (j : Nat) => ⟨1, j⟩
def Su.start (s : Su) (from_ to : Nat) : Su := { s with kids := raise from_ to s.kids, state := 1 }
def Su.exit (s : Su) : Su := { s with state := 3 }

theorem upsTo_succ (ks : List Kid) {from_ i : Nat} (h : from_ ≤ i) : upsTo ks from_ (i + 1) = upsTo ks from_ i ++ if upAt ks i = true then [i] else [] := by
  unfold upsTo
  rw [List.range_succ, List.filter_append]
  congr 1
  by_cases q : upAt ks i = true <;> simp [q, h]
theorem upsTo_base (ks : List Kid) (from_ : Nat) : upsTo ks from_ from_ = [] := by
  unfold upsTo
  rw [List.filter_eq_nil_iff]
  intro j hj
  simp at hj
  simp; omega
theorem startActs_succ (ks : List Kid) {from_ i : Nat} (h : from_ ≤ i) : startActs ks from_ (i + 1) = startActs ks from_ i ++ if goneAt ks i = true then [] else [⟨1, (i : Int)⟩] := by
  unfold startActs
  rw [List.range_succ, List.filter_append, List.map_append]
  congr 1
  by_cases q : goneAt ks i = true <;> simp [q, h]
theorem startActs_base (ks : List Kid) (from_ : Nat) : startActs ks from_ from_ = [] := by
  unfold startActs
  rw [List.map_eq_nil_iff, List.filter_eq_nil_iff]
  intro j hj
  simp at hj
  simp; omega
theorem startActs_length (ks : List Kid) (from_ i : Nat) : (startActs ks from_ i).length ≤ i := by
  unfold startActs
  rw [List.length_map]
  exact Nat.le_trans (List.length_filter_le _ _) (by simp)
theorem upsTo_length (ks : List Kid) (from_ i : Nat) : (upsTo ks from_ i).length ≤ i := by
  unfold upsTo
  exact Nat.le_trans (List.length_filter_le _ _) (by simp)
theorem raise_base (ks : List Kid) (from_ : Nat) : raise from_ from_ ks = ks := by
  unfold raise
  refine List.ext_getElem? fun j => ?_
  rw [List.getElem?_mapIdx]
  cases ks[j]? with
  | none => rfl
  | some k => simp; omega
theorem raise_length (ks : List Kid) (from_ i : Nat) : (raise from_ i ks).length = ks.length := by simp [raise]
theorem raise_get (ks : List Kid) (from_ : Nat) {i : Nat} : (raise from_ i ks)[i]? = ks[i]? := by
  unfold raise
  rw [List.getElem?_mapIdx]
  cases ks[i]? with
  | none => rfl
  | some k => simp
theorem raise_gone (ks : List Kid) {from_ i : Nat} {k : Kid} (hk : ks[i]? = some k) (hg : k.gone = true) : raise from_ (i + 1) ks = raise from_ i ks := by
  unfold raise
  refine List.ext_getElem? fun j => ?_
  rw [List.getElem?_mapIdx, List.getElem?_mapIdx]
  by_cases q : j = i
  · subst q; rw [hk]; simp [hg]
  · cases ks[j]? with
    | none => rfl
    | some k' =>
      have : (j < i + 1) = (j < i) := by simp; omega
      simp only [Option.map_some, this]
theorem raise_up (ks : List Kid) {from_ i : Nat} {k : Kid} (hf : from_ ≤ i) (hk : ks[i]? = some k) (hg : k.gone = false) : raise from_ (i + 1) ks = (raise from_ i ks).set i { k with up := true } := by
  unfold raise
  refine List.ext_getElem? fun j => ?_
  rw [List.getElem?_mapIdx, List.getElem?_set, List.getElem?_mapIdx]
  by_cases q : i = j
  · subst q
    have := List.getElem?_eq_some_iff.1 hk
    obtain ⟨h1, h2⟩ := this
    rw [hk]; simp [hg, hf, h1]
  · rw [if_neg q]
    cases ks[j]? with
    | none => rfl
    | some k' =>
      have : (j < i + 1) = (j < i) := by simp; omega
      simp only [Option.map_some, this]

/-! ### in memory -/
structure SR where
  ka : Option Addr
  kc : Nat
  na : Option Addr
  nc : Nat
  la : Option Addr
  lc : Nat
  tv : Value
def ThenIs (h : Nat → Option Obj) (p : Nat) : Then → Value → Prop
  | .no, _ => True
  | .exit, v => v = .func (.func 44) #[.pointer (some ⟨p, 0, none⟩)] #[]
  | .all, v => ∃ b, v = .func (.func 45) #[] #[.pointer (some ⟨b, 0, none⟩)] ∧ ∃ fr, h b = some (.cells #[.pointer (some ⟨p, 0, none⟩)] 25 fr)
  | .rest i, v => ∃ b b', v = .func (.func 46) #[] #[.pointer (some ⟨b, 0, none⟩), .pointer (some ⟨b', 0, none⟩)] ∧ (∃ fr, h b = some (.cells #[.pointer (some ⟨p, 0, none⟩)] 25 fr)) ∧ ∃ fr, h b' = some (.cells #[.int .i64 i] 3 fr)
theorem ThenIs.mono {h h' : Nat → Option Obj} {p : Nat} (l : Le h h') : ∀ {t : Then} {v : Value}, ThenIs h p t v → ThenIs h' p t v
  | .no, _, _ => trivial
  | .exit, _, q => q
  | .all, _, ⟨b, e, fr, q⟩ => ⟨b, e, fr, l _ _ q⟩
  | .rest _, _, ⟨b, b', e, ⟨fr, q⟩, fr', q'⟩ => ⟨b, b', e, ⟨fr, l _ _ q⟩, fr', l _ _ q'⟩
def supCells (R : SR) (s : Su) : Array Value := #[.int .i64 s.strat, .int .i64 s.m, .int .i64 s.t, .slice none 0 0, .slice R.ka s.kids.length R.kc, .int .i64 s.state, .slice R.na s.notes.length R.nc, .slice R.la s.rl.length R.lc, .int .i64 s.stop, .int .i64 s.since, .bool s.killed, R.tv]
def supParts (p : Nat) (s : Su) (R : SR) : List HP := [blk p (.cells (supCells R s) 67 (0, 0)), row 69 5 R.ka s.kids.length R.kc (kidVals s.kids), row 3 1 R.na s.notes.length R.nc (i64s s.notes), row 3 1 R.la s.rl.length R.lc (i64s (ints s.rl.reverse))]
def sup (p : Nat) (h : Nat → Option Obj) (s : Su) : HP := bun (fun R => ThenIs h p s.th R.tv) (supParts p s)
theorem sup_mono {W w : World} {L : List HP} {p : Nat} {h h' : Nat → Option Obj} {s : Su} (l : Le h h') (S : Sat W w (sup p h s :: L)) : Sat W w (sup p h' s :: L) :=
  S.head fun _ ⟨R, q, x⟩ => ⟨R, q.mono l, x⟩
theorem sup_open {W w : World} {L : List HP} {p : Nat} {h : Nat → Option Obj} {s : Su} (S : Sat W w (sup p h s :: L)) : ∃ R, ThenIs h p s.th R.tv ∧ Sat W w (blk p (.cells (supCells R s) 67 (0, 0)) :: row 69 5 R.ka s.kids.length R.kc (kidVals s.kids) :: row 3 1 R.na s.notes.length R.nc (i64s s.notes) :: row 3 1 R.la s.rl.length R.lc (i64s (ints s.rl.reverse)) :: L) := S.unbun

theorem elemAc : Elem Try.prog 41 46 2 16 := Elem.mk' Try.underlying41 (z := .agg #[.int .i64 0, .int .i64 0]) (by kernel_rfl) rfl (by decide)
theorem elemInt : Elem Try.prog 48 3 1 8 := Elem.mk' Try.underlying48 (z := .int .i64 0) (by kernel_rfl) rfl (by decide)
theorem elemKid : Elem Try.prog 65 69 5 40 := Elem.mk' Try.underlying65 (z := .agg #[.string ByteArray.empty, .int .i64 0, .int .i64 0, .bool false, .bool false]) (by kernel_rfl) rfl (by decide)

section
variable {W w : World} {L : List HP} {h : Nat → Option Obj} {p : Nat} {s : Su}
theorem done_sup (S : Sat W w (sup p h s :: L)) : Calls Try.prog 21 #[.pointer (some ⟨p, 0, none⟩)] w fun e w' => e = .returned (.bool (decide (s.state = 3))) ∧ w = w' := by
  obtain ⟨R, ht, s'⟩ := sup_open S
  have c5 : w.cell? ⟨p, 5, none⟩ = some (.int .i64 s.state) := s'.cell 5
  clear S s' ht
  go_enter Try.func21, Try.ntmps21
  go_wp2_with fail
  go_ret
  exact ⟨rfl, rfl⟩
theorem exit_sup (S : Sat W w (sup p h s :: L)) : Calls Try.prog 44 #[.pointer (some ⟨p, 0, none⟩)] w fun e w' => ∃ a n c, e = .returned (.slice a n c) ∧ n = [(⟨4, 0⟩ : Ac)].length ∧ Sat W w' (row 46 2 a n c (acVals [⟨4, 0⟩]) :: sup p h s.exit :: L) := by
  obtain ⟨R, ht, s'⟩ := sup_open S
  have f5 := s'.free 5
  have c5 : w.cell? ⟨p, 5, none⟩ = some (.int .i64 s.state) := s'.cell 5
  have S1 := hid s'
  have HT := hid ht
  clear S s' ht
  go_enter Try.func44, Try.ntmps44
  go_wp2_with fail
  go_ret
  have s2 := (S1.out.set 5 (.int .i64 3)).allocAt (k := w.heap.size) (.cells #[.int .i64 4, .int .i64 0] 46) (by simp)
  have s3 := Sat.rowMk (size := 2) (n := 1) (c := 1) (xs := acVals [⟨4, 0⟩]) s2 (off := 0) rfl (by omega) (by unfold maxLen; omega) (by simp) rfl
  exact ⟨_, _, _, rfl, rfl, s3.unrot5.mkbun (α := SR) R HT.out |>.swap⟩
set_option maxRecDepth 100000 in
theorem ups_sup (S : Sat W w (sup p h s :: L)) (f : Nat) (hk : s.kids.length ≤ 10000) : Calls Try.prog 43 #[.pointer (some ⟨p, 0, none⟩), .int .i64 f] w fun e w' => ∃ a n c, e = .returned (.slice a n c) ∧ n = (ups s.kids f).length ∧ Sat W w' (row 3 1 a n c (i64s (ints (ups s.kids f))) :: sup p h s :: L) := by
  obtain ⟨R, ht, s'⟩ := sup_open S
  have S1 := hid (s'.rowNil (e := 3) (size := 1))
  have HT := hid ht
  have hf' : (f : Int) ≤ s.kids.length ∨ s.kids.length < f := by omega
  clear S s' ht
  go_enter Try.func43, Try.ntmps43
  go_wp2_with fail
  go_loopw [5, 6] (fun lv iv wr => ∃ (i : Nat) (A : Option Addr) (ca : Nat), f ≤ i ∧ (i ≤ s.kids.length ∨ i = f) ∧ iv = .int .i64 i ∧ lv = .slice A (upsTo s.kids f i).length ca ∧ Hid (Sat W wr (row 3 1 A (upsTo s.kids f i).length ca (i64s (ints (upsTo s.kids f i))) :: blk p (.cells (supCells R s) 67 (0, 0)) :: row 69 5 R.ka s.kids.length R.kc (kidVals s.kids) :: row 3 1 R.na s.notes.length R.nc (i64s s.notes) :: row 3 1 R.la s.rl.length R.lc (i64s (ints s.rl.reverse)) :: L))) (fun _ iv _ => s.kids.length - (intOf iv).toNat)
  case atStart => exact ⟨f, none, 0, Nat.le_refl _, .inr rfl, rfl, by rw [upsTo_base]; rfl, by rw [upsTo_base]; exact S1⟩
  case round =>
    obtain ⟨i, A, ca, hfi, hi, rfl, rfl, S⟩ := hrel
    clear S1
    have c4 : wr.cell? ⟨p, 4, none⟩ = some (.slice R.ka s.kids.length R.kc) := S.out.drop.cell 4
    by_cases hlt : i < s.kids.length
    · obtain ⟨⟨kc, up, gn⟩, hx⟩ : ∃ x, s.kids[i]? = some x := ⟨_, List.getElem?_eq_getElem hlt⟩
      have hrd := (S.out.drop.drop).rowRd
      obtain ⟨g, off, hka, e3⟩ := hrd (i * 5 + 3) _ (by rw [kidVals, flat_get lenKid hx (by omega)]; rfl)
      rw [← Nat.add_assoc] at e3
      rw [hka] at c4
      have HX := hid hx
      have HA := hid hka
      clear hrd hx hka
      have hul := upsTo_length s.kids f i
      cases up with
      | true =>
        go_wp2_with (at_builtin; refine wpList_push_row rfl _ _ rfl elemInt rfl S.out (.int .i64 i) rfl (by simp) rfl (by unfold maxLen; omega) (by omega) ?_; intro a' c' w3 s4 ha' hz; have S4 := hid s4; clear s4 S c4 e3)
        go_roundw
        case rel =>
          have hu : upsTo s.kids f (i + 1) = upsTo s.kids f i ++ [i] := by rw [upsTo_succ _ hfi]; simp [upAt, HX.out]
          refine ⟨i + 1, a', c', by omega, .inl hlt, by go_num, by rw [hu]; simp, hid ?_⟩
          have := S4.out
          rw [hu]
          simpa [ints, i64s] using this
        case measure => simp [intOf]; omega
      | false =>
        go_wp2_with fail
        go_roundw
        case rel =>
          have hu : upsTo s.kids f (i + 1) = upsTo s.kids f i := by rw [upsTo_succ _ hfi]; simp [upAt, HX.out]
          exact ⟨i + 1, A, ca, by omega, .inl hlt, by go_num, by rw [hu], by rw [hu]; exact S⟩
        case measure => simp [intOf]; omega
    · go_wp2_with fail
      go_ret
      have he : upsTo s.kids f i = ups s.kids f := by
        rcases hi with q | q
        · obtain rfl : i = s.kids.length := by omega
          rfl
        · subst q
          rw [upsTo_base]
          symm
          unfold ups upsTo
          rw [List.filter_eq_nil_iff]
          intro j hj
          simp at hj
          simp; omega
      rw [he] at S ⊢
      exact ⟨_, _, _, rfl, rfl, S.out.unrot5.mkbun (α := SR) R HT.out |>.swap⟩
end
end Go.Proofs.Ytfhjoidciaidlaa
