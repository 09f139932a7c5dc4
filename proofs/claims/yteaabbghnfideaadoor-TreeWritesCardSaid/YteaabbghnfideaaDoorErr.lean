/-
  ERRORS AS CHAINS: what fault.At makes, what the document's own answer (trouperef01) makes, and the statements' comparison Ref.
-/
import Derived.Test.YteaabbghnfideaaDoorProg
import Derived.Test.YteaabbghnfideaaDoorArch
import Derived.Test.YteaabbghnfideaaDoorQTail
import Derived.Deep.RegionLaw
import Derived.Deep.LoopGhost
import Derived.WalkSpells
import Derived.Laws.StructEq
namespace Go.Proofs.YteaabbghnfideaaDoor
open Go.RowKit
set_option maxHeartbeats 400000

/-- An error value that is a chain of faults (what was done, at which number) around a kind. -/
def ErrIn (h : Nat → Option Obj) : Value → List (ByteArray × Int) → Int → Prop
  | v, [], k => v = .iface 44 (.int .i64 k)
  | v, (op, n) :: fs, k => ∃ b v', v = .iface 43 (.pointer (some ⟨b, 0, none⟩)) ∧ h b = some (.cells #[.string op, .int .i64 n, v'] 46 (0, 0)) ∧ ErrIn h v' fs k
def XIn (h : Nat → Option Obj) : Option Addr → List (ByteArray × Int) → Int → Prop
  | p, [], k => ∃ b, p = some ⟨b, 0, none⟩ ∧ h b = some (.cells #[.string ByteArray.empty, .int .i64 0, .pointer none, .int .i64 k] 93 (0, 0))
  | p, (op, n) :: fs, k => ∃ b p', p = some ⟨b, 0, none⟩ ∧ h b = some (.cells #[.string op, .int .i64 n, .pointer p', .int .i64 0] 93 (0, 0)) ∧ XIn h p' fs k
theorem ErrIn.mono {h h' : Nat → Option Obj} (l : Le h h') : ∀ {fs : List (ByteArray × Int)} {v : Value} {k : Int}, ErrIn h v fs k → ErrIn h' v fs k
  | [], _, _, q => q
  | (_, _) :: _, _, _, ⟨b, v', e1, e2, e3⟩ => ⟨b, v', e1, l b _ e2, e3.mono l⟩
theorem XIn.mono {h h' : Nat → Option Obj} (l : Le h h') : ∀ {fs : List (ByteArray × Int)} {p : Option Addr} {k : Int}, XIn h p fs k → XIn h' p fs k
  | [], _, _, ⟨b, e1, e2⟩ => ⟨b, e1, l b _ e2⟩
  | (_, _) :: _, _, _, ⟨b, p', e1, e2, e3⟩ => ⟨b, p', e1, l b _ e2, e3.mono l⟩
theorem XIn.some {h : Nat → Option Obj} : ∀ {fs : List (ByteArray × Int)} {p : Option Addr} {k : Int}, XIn h p fs k → ∃ b, p = .some ⟨b, 0, none⟩
  | [], _, _, ⟨b, e1, _⟩ => ⟨b, e1⟩
  | (_, _) :: _, _, _, ⟨b, _, e1, _, _⟩ => ⟨b, e1⟩
theorem ErrIn.iface {h : Nat → Option Obj} : ∀ {fs : List (ByteArray × Int)} {v : Value} {k : Int}, ErrIn h v fs k → ∃ t x, v = .iface t x
  | [], _, _, e => ⟨_, _, e⟩
  | (_, _) :: _, _, _, ⟨_, _, e1, _, _⟩ => ⟨_, _, e1⟩

section
variable {W w : World} {L : List HP} {h : Nat → Option Obj}

theorem at_nil (op : ByteArray) (n : Int) (w : World) : Calls Tryd.prog 38 #[.string op, .int .i64 n, .nilIface] w fun e w' => e = .returned .nilIface ∧ w = w' := by
  go_enter Tryd.func38, Tryd.ntmps38
  go_wp2
  go_ret
  exact ⟨rfl, rfl⟩
theorem at_some (s : Sat W w (arch h :: L)) (op : ByteArray) (n : Int) {v : Value} {fs : List (ByteArray × Int)} {k : Int} (hv : ErrIn h v fs k) :
    Calls Tryd.prog 38 #[.string op, .int .i64 n, v] w fun e w' => ∃ v' h', e = .returned v' ∧ Le h h' ∧ ErrIn h' v' ((op, n) :: fs) k ∧ Sat W w' (arch h' :: L) := by
  obtain ⟨t, x, rfl⟩ := hv.iface
  have HV := hid hv
  have S1 := hid (s.alloc (.cells #[.string op, .int .i64 n, .iface t x] 46))
  clear hv s
  go_enter Tryd.func38, Tryd.ntmps38
  go_wp2
  go_ret
  obtain ⟨h', l, hb, s'⟩ := S1.out.store
  exact ⟨_, h', rfl, l, ⟨_, _, rfl, hb, HV.out.mono l⟩, s'⟩
theorem k_any (s : Sat W w (arch h :: L)) (k : Int) :
    Calls Tryd.prog 68 #[.int .i64 k] w fun e w' => ∃ p h', e = .returned (.pointer p) ∧ Le h h' ∧ XIn h' p [] k ∧ Sat W w' (arch h' :: L) := by
  have S1 := hid (s.alloc (.cells #[.string ByteArray.empty, .int .i64 0, .pointer none, .int .i64 k] 93))
  clear s
  go_enter Tryd.func68, Tryd.ntmps68
  go_wp2
  go_ret
  obtain ⟨h', l, hb, s'⟩ := S1.out.store
  exact ⟨_, h', rfl, l, ⟨_, rfl, hb⟩, s'⟩
theorem f_any (s : Sat W w (arch h :: L)) (op : ByteArray) (n : Int) {p : Option Addr} {fs : List (ByteArray × Int)} {k : Int} (hv : XIn h p fs k) :
    Calls Tryd.prog 41 #[.string op, .int .i64 n, .pointer p] w fun e w' => ∃ p' h', e = .returned (.pointer p') ∧ Le h h' ∧ XIn h' p' ((op, n) :: fs) k ∧ Sat W w' (arch h' :: L) := by
  obtain ⟨b, rfl⟩ := hv.some
  have HV := hid hv
  have S1 := hid (s.alloc (.cells #[.string op, .int .i64 n, .pointer (some ⟨b, 0, none⟩), .int .i64 0] 93))
  clear hv s
  go_enter Tryd.func41, Tryd.ntmps41
  go_wp2
  go_ret
  obtain ⟨h', l, hb, s'⟩ := S1.out.store
  exact ⟨_, h', rfl, l, ⟨_, _, rfl, hb, HV.out.mono l⟩, s'⟩
end

/-! ### Links -/
@[go_sem] theorem as_ff (v : Value) (xT : TypeId) (w : World) : (Instr.typeAssert (.iface 43 v) xT 43 true).run Tryd.prog w = .ok (.tuple #[v, .bool true]) w := by kernel_rfl
@[go_sem] theorem as_ef (v : Value) (xT : TypeId) (w : World) : (Instr.typeAssert (.iface 44 v) xT 43 true).run Tryd.prog w = .ok (.tuple #[.pointer none, .bool false]) w := by kernel_rfl
@[go_sem] theorem as_ee (v : Value) (xT : TypeId) (w : World) : (Instr.typeAssert (.iface 44 v) xT 44 true).run Tryd.prog w = .ok (.tuple #[v, .bool true]) w := by kernel_rfl
structure Lk where
  op : ByteArray
  n : Int
  k : Int
def lkVal (x : Lk) : List Value := [.string x.op, .int .i64 x.n, .int .i64 x.k]
def lkVals (l : List Lk) : List Value := l.flatMap lkVal
def linksOf (fs : List (ByteArray × Int)) : List Lk := fs.map fun x => ⟨x.1, x.2, 0⟩
def links (fs : List (ByteArray × Int)) (k : Int) : List Lk := linksOf fs ++ [⟨ByteArray.empty, 0, k⟩]
theorem length_lkVals (l : List Lk) : (lkVals l).length = l.length * 3 := by
  induction l with
  | nil => rfl
  | cons a l ih => simp only [lkVals, List.flatMap_cons, List.length_append, List.length_cons] at ih ⊢; simp only [lkVal, List.length_cons, List.length_nil]; omega
theorem lkVals_snoc (l : List Lk) (x : Lk) : lkVals (l ++ [x]) = lkVals l ++ lkVal x := by simp [lkVals]
theorem one_lkVal (x : Lk) : ∀ v ∈ lkVal x, v.oneCell' = true := by
  intro v hv
  simp only [lkVal, List.mem_cons, List.not_mem_nil, or_false] at hv
  rcases hv with rfl | rfl | rfl <;> rfl
theorem elemLk : Elem Tryd.prog 59 91 3 32 := Elem.mk' Tryd.underlying59 (z := .agg #[.string ByteArray.empty, .int .i64 0, .int .i64 0]) (by kernel_rfl) rfl (by decide)

section
variable {W w : World} {L : List HP} {h : Nat → Option Obj}

set_option maxRecDepth 100000 in
/-- the statements' own Links: of a chain -/
theorem links_err (s : Sat W w (arch h :: L)) {v : Value} {fs : List (ByteArray × Int)} {k : Int} (hv : ErrIn h v fs k) (hk : k ≠ 0) (hlen : fs.length ≤ 9000) :
    Calls Tryd.prog 32 #[v] w fun e w' => ∃ a n c, e = .returned (.tuple #[.slice a n c, .bool true]) ∧ n = (links fs k).length ∧ Sat W w' (row 91 3 a n c (lkVals (links fs k)) :: arch h :: L) := by
  have S1 : Hid (Sat W w (row 91 3 none 0 0 (lkVals (linksOf [])) :: arch h :: L)) := hid s.rowNil
  have HV := hid hv
  have HK := hid hk
  clear s hv hk
  go_enter Tryd.func32, Tryd.ntmps32
  go_wp2_with fail
  go_loopg [0, 4, 5] fs.length (fun left ev lv kv wr => ∃ (pre rest : List (ByteArray × Int)) (A : Option Addr) (ca : Nat), pre ++ rest = fs ∧ rest.length = left ∧ Hid (ErrIn h ev rest k) ∧ lv = .slice A pre.length ca ∧ kv = .int .i64 (pre.length : Nat) ∧ Hid (Sat W wr (row 91 3 A pre.length ca (lkVals (linksOf pre)) :: arch h :: L)))
  case atStart => exact ⟨[], fs, none, 0, rfl, rfl, HV, rfl, rfl, S1⟩
  case round =>
    obtain ⟨pre, rest, A, ca, hpr, hrest, HE, rfl, rfl, S⟩ := hrel
    clear S1
    have hpl : pre.length + rest.length ≤ 9000 := by rw [← List.length_append, hpr]; exact hlen
    have HPR := hid hpr
    clear hpr
    cases rest with
    | nil =>
      have he := HE.out
      simp only [ErrIn] at he
      subst he
      go_wp2_with (at_builtin; refine wpList_pushN rfl _ _ rfl elemLk rfl S.out (lkVal ⟨ByteArray.empty, 0, k⟩) rfl rfl rfl (one_lkVal _) (by unfold maxLen; omega) (by omega) ?_; intro a' c' w3 s4 ha' hz; have S4 := hid s4; clear s4 S)
      go_ret2
      have hk1 : (k != 0) = true := by simpa using HK.out
      have h2 := HPR.out
      rw [List.append_nil] at h2
      subst h2
      rw [hk1]
      exact ⟨_, _, _, rfl, by simp [links, linksOf], by have := S4.out; rw [← lkVals_snoc] at this; exact this⟩
    | cons x rest =>
      obtain ⟨op, n⟩ := x
      have he := HE.out
      simp only [ErrIn] at he
      obtain ⟨b, v', rfl, hb, hrec⟩ := he
      have HR := hid hrec
      have c0 := S.out.drop.archCell hb 0
      have c1 := S.out.drop.archCell hb 1
      have c2 := S.out.drop.archCell hb 2
      have HB := hid hb
      simp only [List.getElem?_toArray, List.getElem?_cons_zero, List.getElem?_cons_succ] at c0 c1 c2
      clear hrec HE hb
      simp only [List.length_cons] at hrest hpl
      go_wp2_with fail
      go_region_law (refine step_pushN rfl _ _ rfl elemLk rfl S.out.drew (lkVal ⟨op, n, 0⟩) rfl rfl (by simp) (one_lkVal _) (by unfold maxLen; omega) (by omega) ?_; intro a' c' w3 s4 ha' hz; have S4 := hid s4; clear s4)
      all_goals have c2' := S4.out.drop.archCell HB.out 2
      all_goals simp only [List.getElem?_toArray, List.getElem?_cons_zero, List.getElem?_cons_succ] at c2'
      all_goals clear c0 c1 c2
      all_goals clear S
      all_goals go_wp2_with fail
      all_goals go_roundg (rest.length)
      all_goals first
        | omega
        | exact ⟨pre ++ [(op, n)], rest, a', c', by have := HPR.out; simpa using this, rfl, HR, by simp, by simp, hid (by
            have h5 := S4.out
            rw [← lkVals_snoc] at h5
            simpa [linksOf] using h5)⟩

/-- nil's -/
theorem links_nil (w : World) : Calls Tryd.prog 32 #[.nilIface] w fun e w' => e = .returned (.tuple #[.slice none 0 0, .bool true]) ∧ w = w' := by
  go_enter Tryd.func32, Tryd.ntmps32
  go_wp2_with fail
  go_loopw [0, 4, 5] (fun v l i wr => v = .nilIface ∧ l = .slice none 0 0 ∧ i = .int .i64 0 ∧ w = wr) (fun _ _ _ _ => 0)
  case atStart => exact ⟨rfl, rfl, rfl, rfl⟩
  case round =>
    obtain ⟨rfl, rfl, rfl, rfl⟩ := hrel
    go_wp2_with fail
    go_ret2
    exact ⟨rfl, rfl⟩
set_option maxRecDepth 100000 in
theorem xlinks (s : Sat W w (arch h :: L)) {p : Option Addr} {fs : List (ByteArray × Int)} {k : Int} (hv : XIn h p fs k) (hlen : fs.length ≤ 9000) :
    Calls Tryd.prog 34 #[.pointer p] w fun e w' => ∃ a n c, e = .returned (.slice a n c) ∧ n = (links fs k).length ∧ Sat W w' (row 91 3 a n c (lkVals (links fs k)) :: arch h :: L) := by
  have S1 : Hid (Sat W w (row 91 3 none 0 0 (lkVals (linksOf [])) :: arch h :: L)) := hid s.rowNil
  have HV := hid hv
  clear s hv
  go_enter Tryd.func34, Tryd.ntmps34
  go_wp2_with fail
  go_loopg [0, 3] fs.length (fun left ev lv wr => ∃ (pre rest : List (ByteArray × Int)) (A : Option Addr) (ca : Nat) (p : Option Addr), pre ++ rest = fs ∧ rest.length = left ∧ ev = .pointer p ∧ Hid (XIn h p rest k) ∧ lv = .slice A pre.length ca ∧ Hid (Sat W wr (row 91 3 A pre.length ca (lkVals (linksOf pre)) :: arch h :: L)))
  case atStart => exact ⟨[], fs, none, 0, p, rfl, rfl, rfl, HV, rfl, S1⟩
  case round =>
    obtain ⟨pre, rest, A, ca, q, hpr, hrest, rfl, HE, rfl, S⟩ := hrel
    clear S1
    have hpl : pre.length + rest.length ≤ 9000 := by rw [← List.length_append, hpr]; exact hlen
    have HPR := hid hpr
    clear hpr
    cases rest with
    | nil =>
      have he := HE.out
      simp only [XIn] at he
      obtain ⟨b, rfl, hb⟩ := he
      have c2 := S.out.drop.archCell hb 2
      have c3 := S.out.drop.archCell hb 3
      have HB := hid hb
      simp only [List.getElem?_toArray, List.getElem?_cons_zero, List.getElem?_cons_succ] at c2 c3
      clear HE hb
      go_wp2_with (at_builtin; refine wpList_pushN rfl _ _ rfl elemLk rfl S.out (lkVal ⟨ByteArray.empty, 0, k⟩) rfl rfl rfl (one_lkVal _) (by unfold maxLen; omega) (by omega) ?_; intro a' c' w3 s4 ha' hz; have S4 := hid s4; clear s4 S c2 c3)
      go_ret
      have h2 := HPR.out
      rw [List.append_nil] at h2
      subst h2
      exact ⟨_, _, _, rfl, by simp [links, linksOf], by have := S4.out; rw [← lkVals_snoc] at this; exact this⟩
    | cons x rest =>
      obtain ⟨op, n⟩ := x
      have he := HE.out
      simp only [XIn] at he
      obtain ⟨b, p', rfl, hb, hrec⟩ := he
      obtain ⟨b', rfl⟩ := hrec.some
      have HR := hid hrec
      have c0 := S.out.drop.archCell hb 0
      have c1 := S.out.drop.archCell hb 1
      have c2 := S.out.drop.archCell hb 2
      have HB := hid hb
      simp only [List.getElem?_toArray, List.getElem?_cons_zero, List.getElem?_cons_succ] at c0 c1 c2
      clear hrec HE hb
      simp only [List.length_cons] at hrest hpl
      go_wp2_with fail
      go_region_law (refine step_pushN rfl _ _ rfl elemLk rfl S.out.drew (lkVal ⟨op, n, 0⟩) rfl rfl (by simp) (one_lkVal _) (by unfold maxLen; omega) (by omega) ?_; intro a' c' w3 s4 ha' hz; have S4 := hid s4; clear s4)
      all_goals have c2' := S4.out.drop.archCell HB.out 2
      all_goals simp only [List.getElem?_toArray, List.getElem?_cons_zero, List.getElem?_cons_succ] at c2'
      all_goals clear c0 c1 c2
      all_goals clear S
      all_goals go_wp2_with fail
      all_goals go_roundg (rest.length)
      all_goals first
        | omega
        | exact ⟨pre ++ [(op, n)], rest, a', c', _, by have := HPR.out; simpa using this, rfl, rfl, HR, by simp, hid (by
            have h5 := S4.out
            rw [← lkVals_snoc] at h5
            simpa [linksOf] using h5)⟩
theorem xlinks_nil (w : World) : Calls Tryd.prog 34 #[.pointer none] w fun e w' => e = .returned (.slice none 0 0) ∧ w = w' := by
  go_enter Tryd.func34, Tryd.ntmps34
  go_wp2_with fail
  go_loopw [0, 3] (fun v l wr => v = .pointer none ∧ l = .slice none 0 0 ∧ w = wr) (fun _ _ _ => 0)
  case atStart => exact ⟨rfl, rfl, rfl⟩
  case round =>
    obtain ⟨rfl, rfl, rfl⟩ := hrel
    go_wp2_with fail
    go_ret
    exact ⟨rfl, rfl⟩
end

/-! ### the same links -/
theorem get_lkVals {l : List Lk} {k : Nat} {x : Lk} (h : l[k]? = some x) : ∀ j v, (lkVal x)[j]? = some v → (lkVals l)[k * 3 + j]? = some v := by
  induction l generalizing k with
  | nil => cases h
  | cons a l ih =>
    intro j v hj
    have hj3 : j < 3 := by
      have := List.getElem?_eq_some_iff.1 hj
      obtain ⟨q, _⟩ := this
      simpa [lkVal] using q
    cases k with
    | zero =>
      simp only [List.getElem?_cons_zero, Option.some.injEq] at h
      subst h
      show (lkVal a ++ lkVals l)[0 * 3 + j]? = some v
      rw [Nat.zero_mul, Nat.zero_add, List.getElem?_append_left (by simpa [lkVal] using hj3)]
      exact hj
    | succ k =>
      simp only [List.getElem?_cons_succ] at h
      show (lkVal a ++ lkVals l)[(k + 1) * 3 + j]? = some v
      rw [List.getElem?_append_right (by simp [lkVal]; omega)]
      have e : (k + 1) * 3 + j - (lkVal a).length = k * 3 + j := by simp only [lkVal, List.length_cons, List.length_nil]; omega
      rw [e]
      exact ih h j v hj
theorem ByteArray.toList_inj' {a b : ByteArray} (h : a.toList = b.toList) : a = b := by
  rw [ByteArray.toList_eq, ByteArray.toList_eq] at h
  obtain ⟨⟨x⟩⟩ := a
  obtain ⟨⟨y⟩⟩ := b
  simp only at h
  rw [h]
set_option maxHeartbeats 1000000 in
theorem sameLinks_any (w : World) (a b : Option Addr) (n m c d : Nat) (xs ys : List Lk) (hn : n = xs.length) (hm : m = ys.length) (ha : Rd w a (lkVals xs)) (hb : Rd w b (lkVals ys)) (hn9 : n ≤ 10000) (hm9 : m ≤ 10000) :
    Calls Tryd.prog 33 #[.slice a n c, .slice b m d] w fun e w' => (∃ r, e = .returned (.bool r) ∧ (r = true ↔ xs = ys)) ∧ ∃ k, w' = w.drewN k := by
  by_cases hnm : n = m
  · subst hnm
    have hd0 : ((n : Int) != n) = false := by simp
    have HA := hid ha
    have HB := hid hb
    have HN := hid hn
    have HM := hid hm
    clear ha hb hn hm
    go_enter Tryd.func33, Tryd.ntmps33
    go_wp2
    go_loopw [5] (fun i wr => ∃ k : Nat, k ≤ n ∧ i = .int .i64 k ∧ Hid (xs.take k = ys.take k) ∧ ∃ q, wr = w.drewN q) (fun i _ => n - (intOf i).toNat)
    case atStart => exact ⟨0, Nat.zero_le _, rfl, rfl, 0, rfl⟩
    case round =>
      obtain ⟨k, hk, rfl, HT, q, rfl⟩ := hrel
      by_cases hlt : k < n
      · obtain ⟨⟨op, u, kd⟩, hx⟩ : ∃ x, xs[k]? = some x := ⟨_, List.getElem?_eq_getElem (by have := HN.out; omega)⟩
        obtain ⟨⟨op', u', kd'⟩, hy⟩ : ∃ y, ys[k]? = some y := ⟨_, List.getElem?_eq_getElem (by have := HM.out; omega)⟩
        obtain ⟨g, off, rfl, e0⟩ := HA.out (k * 3 + 0) _ (get_lkVals hx 0 _ rfl)
        obtain ⟨_, _, hg1, e1⟩ := HA.out (k * 3 + 1) _ (get_lkVals hx 1 _ rfl)
        obtain ⟨_, _, hg2, e2⟩ := HA.out (k * 3 + 2) _ (get_lkVals hx 2 _ rfl)
        cases hg1; cases hg2
        obtain ⟨g', off', rfl, f0⟩ := HB.out (k * 3 + 0) _ (get_lkVals hy 0 _ rfl)
        obtain ⟨_, _, hg1, f1⟩ := HB.out (k * 3 + 1) _ (get_lkVals hy 1 _ rfl)
        obtain ⟨_, _, hg2, f2⟩ := HB.out (k * 3 + 2) _ (get_lkVals hy 2 _ rfl)
        cases hg1; cases hg2
        rw [Nat.add_zero] at e0 f0
        rw [← Nat.add_assoc] at e1 e2 f1 f2
        have HX := hid hx
        have HY := hid hy
        clear hx hy
        by_cases hxy : (⟨op, u, kd⟩ : Lk) = ⟨op', u', kd'⟩
        · cases hxy
          go_wp2
          go_quiet (fail)
          go_wp2
          go_roundw
          case rel => exact ⟨k + 1, by omega, by go_num, by
            show xs.take (k + 1) = ys.take (k + 1)
            rw [List.take_add_one, List.take_add_one, HT.out, HX.out, HY.out], _, rfl⟩
          case measure => simp [intOf]; omega
        · have HD := hid hxy
          have hout : ¬ xs = ys := by
            intro q
            apply HD.out
            have h1 := HX.out
            have h2 := HY.out
            rw [q, h2] at h1
            exact (Option.some.inj h1).symm
          have HO := hid hout
          clear hxy hout
          by_cases h1 : op.toList = op'.toList
          · have := ByteArray.toList_inj' h1
            subst this
            clear h1
            by_cases h2 : u = u'
            · subst h2
              have h3 : ¬ kd = kd' := fun h3 => HD.out (by rw [h3])
              clear HD
              go_wp2
              go_quiet (fail)
              go_wp2
              go_ret
              exact ⟨⟨_, rfl, by simp, fun q => absurd q HO.out⟩, _, by rw [World.drewN_drewN]⟩
            · clear HD
              go_wp2
              go_quiet (fail)
              go_wp2
              go_ret
              exact ⟨⟨_, rfl, by simp, fun q => absurd q HO.out⟩, _, by rw [World.drewN_drewN]⟩
          · clear HD
            go_wp2
            go_quiet (fail)
            go_wp2
            go_ret
            exact ⟨⟨_, rfl, by simp, fun q => absurd q HO.out⟩, _, by rw [World.drewN_drewN]⟩
      · obtain rfl : k = n := by omega
        go_wp2
        go_ret
        refine ⟨⟨_, rfl, fun _ => ?_, fun _ => rfl⟩, _, rfl⟩
        have h1 := HN.out
        have h2 := HM.out
        have h3 := HT.out
        rw [List.take_of_length_le (by omega), List.take_of_length_le (by omega)] at h3
        exact h3
  · have hne : xs ≠ ys := fun q => hnm (by rw [hn, hm, q])
    have hd0 : ((n : Int) != m) = true := by simp; omega
    have HNE := hid hne
    clear ha hb hn hm hne hnm
    go_enter Tryd.func33, Tryd.ntmps33
    go_wp2
    go_ret
    exact ⟨⟨_, rfl, by simp, fun q => absurd q HNE.out⟩, 0, rfl⟩

section
variable {W w : World} {L : List HP} {h : Nat → Option Obj}
theorem ref_err (s : Sat W w (arch h :: L)) {v : Value} {p : Option Addr} {fs : List (ByteArray × Int)} {k : Int} (hv : ErrIn h v fs k) (hx : XIn h p fs k) (hk : k ≠ 0) (hlen : fs.length ≤ 9000) :
    Calls Tryd.prog 14 #[v, .pointer p] w fun e w' => e = .returned (.bool true) ∧ Sat W w' (arch h :: L) := by
  obtain ⟨t, x, rfl⟩ := hv.iface
  obtain ⟨b, rfl⟩ := hx.some
  have HV := hid hv
  have HX := hid hx
  have HK := hid hk
  have S := hid s
  have hl : (links fs k).length ≤ 9001 := by simp [links, linksOf]; omega
  clear hv hx hk s
  go_enter Tryd.func14, Tryd.ntmps14
  go_wp2_with fail
  refine (links_err S.out HV.out HK.out hlen).mono ?_
  rintro e w1 ⟨a, n, c, rfl, hn, s1⟩
  have HN := hid hn
  have S1 := hid s1
  clear s1 S hn
  go_wp2_with fail
  refine (xlinks (S1.out.swap) HX.out hlen).mono ?_
  rintro e w2 ⟨a2, n2, c2, rfl, hn2, s2⟩
  have HN2 := hid hn2
  have S2 := hid s2
  clear s2 S1 hn2
  go_wp2_with fail
  refine (sameLinks_any w2 a a2 n n2 c c2 _ _ HN.out HN2.out ((S2.out.sel [2]).rowRd) (S2.out.rowRd) (by rw [HN.out]; omega) (by rw [HN2.out]; omega)).mono ?_
  rintro e w3 ⟨⟨r, rfl, hr⟩, hw⟩
  have S3 := hid (S2.out.drop.swap.drop.quiet hw)
  obtain rfl := hr.2 rfl
  clear hw hr S2
  go_wp2_with fail
  go_ret
  exact ⟨rfl, S3.out⟩
theorem ref_nil (w : World) :
    Calls Tryd.prog 14 #[.nilIface, .pointer none] w fun e w' => e = .returned (.bool true) ∧ ∃ m, w' = w.drewN m := by
  go_enter Tryd.func14, Tryd.ntmps14
  go_wp2_with fail
  refine (links_nil w).mono ?_
  rintro e w1 ⟨rfl, rfl⟩
  go_wp2_with fail
  refine (xlinks_nil w).mono ?_
  rintro e w1 ⟨rfl, rfl⟩
  go_wp2_with fail
  refine (sameLinks_any w none none 0 0 0 0 [] [] rfl rfl (fun _ _ h => by cases h) (fun _ _ h => by cases h) (by omega) (by omega)).mono ?_
  rintro e w3 ⟨⟨r, rfl, hr⟩, hw⟩
  obtain rfl := hr.2 rfl
  have HW := hid hw
  clear hw hr
  go_wp2_with fail
  go_ret
  exact ⟨rfl, HW.out⟩
end
end Go.Proofs.YteaabbghnfideaaDoor
