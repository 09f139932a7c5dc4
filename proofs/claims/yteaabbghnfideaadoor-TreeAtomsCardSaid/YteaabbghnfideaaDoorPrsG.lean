/-
  tree.Parse: goes: the walk.
-/
import Derived.Test.YteaabbghnfideaaDoorPrsF
namespace Go.Proofs.YteaabbghnfideaaDoor
open Go.RowKit
set_option maxHeartbeats 4000000
set_option maxRecDepth 100000

section
variable {W w : World} {L : List HP}
theorem rows_ne {e1 e2 s1 s2 n1 c1 n2 c2 : Nat} {g1 o1 g2 o2 : Nat} {x1 x2 : List Value} (S : Sat W w (row e1 s1 (some ⟨g1, o1, none⟩) n1 c1 x1 :: row e2 s2 (some ⟨g2, o2, none⟩) n2 c2 x2 :: L)) : g1 ≠ g2 := by
  rcases S.rowOpen with ⟨h, _⟩ | ⟨g, off, cur, h, s', _⟩
  · cases h
  · cases h
    rcases s'.swap.rowOpen with ⟨h, _⟩ | ⟨g, off, cur, h, s'', _⟩
    · cases h
    · cases h
      exact fun q => s''.ne q.symm
theorem row_blk_ne {e1 s1 n1 c1 : Nat} {g1 o1 b : Nat} {x1 : List Value} {o : Obj} (S : Sat W w (row e1 s1 (some ⟨g1, o1, none⟩) n1 c1 x1 :: blk b o :: L)) : g1 ≠ b := by
  rcases S.rowOpen with ⟨h, _⟩ | ⟨g, off, cur, h, s', _⟩
  · cases h
  · cases h; exact s'.ne
theorem row_lt {e1 s1 n1 c1 : Nat} {g1 o1 : Nat} {x1 : List Value} (S : Sat W w (row e1 s1 (some ⟨g1, o1, none⟩) n1 c1 x1 :: L)) : g1 < w.heap.size := by
  rcases S.rowOpen with ⟨h, _⟩ | ⟨g, off, cur, h, s', _⟩
  · cases h
  · cases h; exact s'.lt
theorem list_set_app {α : Type} {low top : List α} {n k : Nat} (v : α) (hl : low.length = n) : (low ++ top).set (n + k) v = low ++ top.set k v := by
  rw [List.set_append_right _ _ (by omega), hl, Nat.add_sub_cancel_left]
theorem stk_set {e sz g0 o0 ob m c k : Nat} {low top : List Value} (S : Sat W w (row e sz (some ⟨g0, o0, none⟩) (m + 1) c (low ++ top) :: L)) (hl : low.length = m * sz) (hob : ob = o0 + m * sz) (hk : k < sz) (v : Value) :
    Sat W (w.setCell ⟨g0, ob + k, none⟩ v) (row e sz (some ⟨g0, o0, none⟩) (m + 1) c (low ++ top.set k v) :: L) := by
  have := S.rowSet (m * sz + k) (by rw [Nat.succ_mul]; omega) v
  rw [list_set_app v hl, ← Nat.add_assoc, ← hob] at this
  exact this
theorem stk_cell {e sz g0 o0 ob m c k : Nat} {low top : List Value} (S : Sat W w (row e sz (some ⟨g0, o0, none⟩) (m + 1) c (low ++ top) :: L)) (hl : low.length = m * sz) (hob : ob = o0 + m * sz) (hk : k < sz) : w.cell? ⟨g0, ob + k, none⟩ = top[k]? := by
  obtain ⟨g, off, h, hc, _⟩ := S.rowCells (by omega)
  cases h
  have := hc (m * sz + k) (by rw [Nat.succ_mul]; omega)
  rw [← Nat.add_assoc, ← hob, List.getElem?_append_right (by omega), hl, Nat.add_sub_cancel_left] at this
  exact this
theorem stk_free {e sz g0 o0 m c : Nat} {xs : List Value} (S : Sat W w (row e sz (some ⟨g0, o0, none⟩) (m + 1) c xs :: L)) (k : Nat) : w.frozen? ⟨g0, k, none⟩ = false := by
  obtain ⟨g, off, h, _, hf⟩ := S.rowCells (by omega)
  cases h
  exact hf k
end
theorem one6z : ∀ v ∈ ([.int .i64 0, .int .i64 0, .string ByteArray.empty, .slice none 0 0, .slice none 0 0, .slice none 0 0] : List Value), v.oneCell' = true := by
  intro v hv
  simp only [List.mem_cons, List.not_mem_nil, or_false] at hv
  rcases hv with rfl | rfl | rfl | rfl | rfl | rfl <;> rfl
/-- what is open, in memory -/
structure OD where
  t : T
  tail : Bool
  ia : Option Addr
  ic : Nat
  ba : Option Addr
  bc : Nat
  vss : List (List Value)
def odC (o : OD) : List Value := [.int .i64 o.t.k, .int .i64 0, .string ByteArray.empty, .slice o.ia o.t.is.length o.ic, .slice none 0 0, .slice o.ba 0 o.bc, .bool o.tail]
structure OdOk (h : Nat → Option Obj) (o : OD) : Prop where
  ts : TsIn h o.t.is o.vss
  n : o.t.n = 0
  nm : o.t.nm = ByteArray.empty
  rs : o.t.rs = []
  bs : o.t.bs = []
  bc : o.bc ≤ maxLen
theorem OdOk.mono {h h' : Nat → Option Obj} {o : OD} (q : OdOk h o) (l : Le h h') : OdOk h' o := ⟨q.ts.mono l, q.n, q.nm, q.rs, q.bs, q.bc⟩
def odRow (o : OD) : HP := row 25 6 o.ia o.t.is.length o.ic o.vss.flatten
def stkRow (g0 o0 m c : Nat) (xs : List Value) : HP := row 110 7 (some ⟨g0, o0, none⟩) (m + 1) c xs
def tv6 (k n : Int) (nm : ByteArray) (ia : Option Addr) (il ic : Nat) (ra : Option Addr) (rl rc : Nat) (ba : Option Addr) (bl bc : Nat) : List Value := [.int .i64 k, .int .i64 n, .string nm, .slice ia il ic, .slice ra rl rc, .slice ba bl bc]
def GoP (W : World) (L : List HP) (h : Nat → Option Obj) (p : Nat) (s : ByteArray) (g0 o0 m c : Nat) (low : List Value) (q : Option ((T × Bool) × Bool × List Int)) (e : Ending) (w' : World) : Prop := match q with
  | some (o', false, r) => ∃ j od' h', e = .returned (.bool false) ∧ r = rem s j ∧ j ≤ s.size ∧ Le h h' ∧ o' = (od'.t, od'.tail) ∧ OdOk h' od' ∧ Sat W w' (PB p s j false :: stkRow g0 o0 m c (low ++ odC od') :: odRow od' :: arch h' :: L)
  | some (o', true, r) => ∃ j ia ic ra rc ba bc x h', e = .returned (.bool true) ∧ r = rem s j ∧ j ≤ s.size ∧ Le h h' ∧ TIn h' o'.1 (tv6 o'.1.k o'.1.n o'.1.nm ia o'.1.is.length ic ra o'.1.rs.length rc ba o'.1.bs.length bc) ∧
      Sat W w' (PB p s j false :: stkRow g0 o0 m c (low ++ (tv6 o'.1.k o'.1.n o'.1.nm ia o'.1.is.length ic ra o'.1.rs.length rc ba o'.1.bs.length bc ++ [.bool x])) :: arch h' :: L)
  | none => ∃ j k n nm ia il ic ra rl rc ba bl bc x h', e = .returned (.bool true) ∧ j ≤ s.size ∧ Le h h' ∧ Sat W w' (PB p s j true :: stkRow g0 o0 m c (low ++ (tv6 k n nm ia il ic ra rl rc ba bl bc ++ [.bool x])) :: arch h' :: L)
section
variable {W w : World} {L : List HP} {h : Nat → Option Obj} {p i : Nat} {s : ByteArray} {g0 o0 ob m c : Nat} {low : List Value}
theorem goes_any (od : OD) (S : Sat W w (PB p s i false :: stkRow g0 o0 m c (low ++ odC od) :: odRow od :: arch h :: L)) (hod : OdOk h od) (hlow : low.length = m * 7) (hob : ob = o0 + m * 7) (hlen : od.t.is.length ≤ 8589934592) (t : T) {ia ra ba : Option Addr} {ic rc bc : Nat}
    (hin : TIn h t (tv6 t.k t.n t.nm ia t.is.length ic ra t.rs.length rc ba t.bs.length bc)) (hi : i ≤ s.size) (hs : s.size ≤ 4294967296) :
    Calls Tryd.prog 67 #[.pointer (some ⟨p, 0, none⟩), .pointer (some ⟨g0, ob, none⟩), .agg (tv6 t.k t.n t.nm ia t.is.length ic ra t.rs.length rc ba t.bs.length bc).toArray] w (GoP W L h p s g0 o0 m c low (goesF (od.t, od.tail) t (rem s i))) := by
  have hs2 : s.size ≤ 140737488351232 := by omega
  obtain ⟨q, HQ⟩ : ∃ q, Hid (goesF (od.t, od.tail) t (rem s i) = q) := ⟨_, hid rfl⟩
  rw [HQ.out]
  obtain ⟨tt, tail, oia, oic, oba, obc, vss⟩ := od
  have HOD := hid hod
  have HIN := hid hin
  have HLOW := hid hlow
  have HOB := hid hob
  obtain ⟨il, HIL⟩ : ∃ il, Hid (t.is.length = il) := ⟨_, hid rfl⟩
  obtain ⟨rl, HRL⟩ : ∃ rl, Hid (t.rs.length = rl) := ⟨_, hid rfl⟩
  obtain ⟨bl, HBL⟩ : ∃ bl, Hid (t.bs.length = bl) := ⟨_, hid rfl⟩
  obtain ⟨tn, HTN⟩ : ∃ tn, Hid (tt.is.length = tn) := ⟨_, hid rfl⟩
  obtain ⟨xb, HXB⟩ : ∃ xb, Hid (w.heap.size = xb) := ⟨_, hid rfl⟩
  rw [HIL.out, HRL.out, HBL.out] at HIN ⊢
  unfold odC odRow at S
  simp only at S hlen HOD HQ
  rw [HTN.out] at S hlen
  unfold tv6 at HIN ⊢
  have S1 : Hid (Sat W (w.alloc (.cells #[.int .i64 t.k, .int .i64 t.n, .string t.nm, .slice ia il ic, .slice ra rl rc, .slice ba bl bc] 25)) (stkRow g0 o0 m c (low ++ [.int .i64 tt.k, .int .i64 0, .string ByteArray.empty, .slice oia tn oic, .slice none 0 0, .slice oba 0 obc, .bool tail]) :: PB p s i false :: row 25 6 oia tn oic vss.flatten :: blk xb (.cells #[.int .i64 t.k, .int .i64 t.n, .string t.nm, .slice ia il ic, .slice ra rl rc, .slice ba bl bc] 25 (0, 0)) :: arch h :: L)) := hid (((S.allocAt (k := xb) _ HXB.out.symm).rot3).imp (under un3))
  have z0 : ∀ x : Nat, x + 0 = x := fun _ => rfl
  have c0 : World.cell? _ ⟨g0, ob + 0, none⟩ = some (Value.int .i64 tt.k) := stk_cell S1.out HLOW.out HOB.out (by decide)
  have c1 : World.cell? _ ⟨g0, ob + 1, none⟩ = some (Value.int .i64 0) := stk_cell S1.out HLOW.out HOB.out (by decide)
  have c2 : World.cell? _ ⟨g0, ob + 2, none⟩ = some (Value.string ByteArray.empty) := stk_cell S1.out HLOW.out HOB.out (by decide)
  have c3 : World.cell? _ ⟨g0, ob + 3, none⟩ = some (Value.slice oia tn oic) := stk_cell S1.out HLOW.out HOB.out (by decide)
  have c4 : World.cell? _ ⟨g0, ob + 4, none⟩ = some (Value.slice none 0 0) := stk_cell S1.out HLOW.out HOB.out (by decide)
  have c5 : World.cell? _ ⟨g0, ob + 5, none⟩ = some (Value.slice oba 0 obc) := stk_cell S1.out HLOW.out HOB.out (by decide)
  have c6 : World.cell? _ ⟨g0, ob + 6, none⟩ = some (Value.bool tail) := stk_cell S1.out HLOW.out HOB.out (by decide)
  rw [Nat.add_zero] at c0
  have sfr : ∀ k, World.frozen? _ ⟨g0, k, none⟩ = false := fun k => stk_free S1.out k
  have ff4 := sfr (ob + 4)
  have ff3 := sfr (ob + 3)
  have ff6 := sfr (ob + 6)
  have glt : g0 < w.heap.size + 1 := by have := row_lt S1.out; simpa using this
  have glt2 : g0 < w.heap.size := row_lt S.swap
  have S0 := hid S
  clear sfr z0 S hod hin hlow hob
  cases tail with
  | true =>
    have hq : q = match tk 93 (rem s i) with | some r2 => some ((setRs tt t, true), true, r2) | none => none := by rw [← HQ.out]; rfl
    have HQ2 := hid hq
    have S2 : Hid (Sat W _ (PB p s i false :: blk (xb + 1) (.cells #[.int .i64 t.k, .int .i64 t.n, .string t.nm, .slice ia il ic, .slice ra rl rc, .slice ba bl bc] 25 (0, 0)) :: blk xb (.cells #[.int .i64 t.k, .int .i64 t.n, .string t.nm, .slice ia il ic, .slice ra rl rc, .slice ba bl bc] 25 (0, 0)) :: stkRow g0 o0 m c (low ++ [.int .i64 tt.k, .int .i64 0, .string ByteArray.empty, .slice oia tn oic, .slice (some ⟨xb + 1, 0, none⟩) 1 1, .slice oba 0 obc, .bool true]) :: row 25 6 oia tn oic vss.flatten :: arch h :: L)) :=
      hid ((((stk_set (k := 4) S0.out.swap HLOW.out HOB.out (by decide) (.slice (some ⟨xb + 1, 0, none⟩) 1 1)).allocAt (k := xb) (.cells #[.int .i64 t.k, .int .i64 t.n, .string t.nm, .slice ia il ic, .slice ra rl rc, .slice ba bl bc] 25) (by rw [← HXB.out]; simp)).allocAt (k := xb + 1) (.cells #[.int .i64 t.k, .int .i64 t.n, .string t.nm, .slice ia il ic, .slice ra rl rc, .slice ba bl bc] 25) (by rw [← HXB.out]; simp)).rot4)
    clear hq HQ S1 S0
    cases ht : tk 93 (rem s i) with
    | none =>
      have hq : q = none := by rw [HQ2.out, ht]
      subst hq
      have HT := hid (must_no S2.out 93 hi ht)
      clear ht S2 HQ2
      go_enter Tryd.func67, Tryd.ntmps67
      go_wp2_with fail
      rw [HXB.out]
      refine HT.out.mono ?_
      rintro e w5 ⟨rfl, s5⟩
      have S5 := hid s5
      clear HT s5
      go_wp2_with fail
      go_ret
      exact ⟨i, _, _, _, _, _, _, _, _, _, _, _, _, true, h, rfl, hi, Le.refl h, S5.out.rot3.drop.swap.drop.rot3.drop⟩
    | some r2 =>
      obtain ⟨hlt, _, hr⟩ := tk_some ht
      subst hr
      have hq : q = some ((setRs tt t, true), true, rem s (i + 1)) := by rw [HQ2.out, ht]
      subst hq
      have HT := hid (must_yes S2.out 93 hs2 ht)
      clear ht S2 HQ2
      go_enter Tryd.func67, Tryd.ntmps67
      go_wp2_with fail
      rw [HXB.out]
      refine HT.out.mono ?_
      rintro e w5 ⟨rfl, s5⟩
      have S5 := hid s5
      clear HT s5
      go_wp2_with fail
      go_ret
      have hrl := S5.out.rot5.rowLen
      obtain ⟨h1, l1, r1, s7⟩ := store_row S5.out.rot6.rot6
      obtain ⟨h2, l2, r2, s8⟩ := store_lit s7.rot3
      have hL := l1.trans l2
      have hT : LIn h2 [t] (some ⟨xb + 1, 0, none⟩) 0 := LIn.of_rd (vss := [[.int .i64 t.k, .int .i64 t.n, .string t.nm, .slice ia il ic, .slice ra rl rc, .slice ba bl bc]]) (TsIn.snoc (ts := []) (vss := []) (by simp [TsIn]) (TIn.mono hL t HIN.out)) (by simpa using r2)
      have hI : LIn h2 tt.is oia 0 := (LIn.of_rd (HOD.out.ts.mono l1) r1).mono l2
      have hB : RdIn h2 oba (u8s tt.bs) := by have hb : tt.bs = [] := HOD.out.bs; rw [hb]; exact RdIn.nil _ _
      have hbl : tt.bs.length = 0 := by have hb : tt.bs = [] := HOD.out.bs; rw [hb]; rfl
      have q0 := TIn.of (h := h2) (t := setRs tt t) (ia := oia) (ic := oic) (ra := some ⟨xb + 1, 0, none⟩) (rc := 1) (ba := oba) (bc := obc) hI hT hB ⟨by show tt.is.length ≤ _; rw [HTN.out]; exact hrl.2.1, Nat.le_refl 1, by show tt.bs.length ≤ _; omega, hrl.2.2, by unfold maxLen; omega, HOD.out.bc⟩
      have hv : tv6 (setRs tt t).k (setRs tt t).n (setRs tt t).nm oia (setRs tt t).is.length oic (some ⟨xb + 1, 0, none⟩) (setRs tt t).rs.length 1 oba (setRs tt t).bs.length obc ++ [.bool true] = [.int .i64 tt.k, .int .i64 0, .string ByteArray.empty, .slice oia tn oic, .slice (some ⟨xb + 1, 0, none⟩) 1 1, .slice oba 0 obc, .bool true] := by
        have e1 : tt.n = 0 := HOD.out.n
        have e2 : tt.nm = ByteArray.empty := HOD.out.nm
        show ([.int .i64 tt.k, .int .i64 tt.n, .string tt.nm, .slice oia tt.is.length oic, .slice (some ⟨xb + 1, 0, none⟩) 1 1, .slice oba tt.bs.length obc, .bool true] : List Value) = _
        rw [e1, e2, HTN.out, hbl]
      exact ⟨i + 1, oia, oic, some ⟨xb + 1, 0, none⟩, 1, oba, obc, true, h2, rfl, rfl, by omega, hL, q0, by rw [hv]; exact s8.rot3.drop.rot3.rot3⟩
  | false =>
    have hq : q = match tk 44 (rem s i) with
      | some r2 => some ((addIt tt t, false), false, r2)
      | none => if tt.k = 7 then (match tk 124 (rem s i) with
          | some r2 => some ((addIt tt t, true), false, r2)
          | none => match tk 93 (rem s i) with | some r2 => some ((addIt tt t, false), true, r2) | none => none)
        else match tk 125 (rem s i) with | some r2 => some ((addIt tt t, false), true, r2) | none => none := by rw [← HQ.out]; rfl
    have HQ2 := hid hq
    clear hq HQ S0 ff4 ff6
    have xlt : xb < w.heap.size + 1 := by rw [← HXB.out]; omega
    have b0 : World.cell? _ ⟨xb, 0, none⟩ = some (Value.int .i64 t.k) := (S1.out.imp sw4).cell 0
    have b1 : World.cell? _ ⟨xb, 1, none⟩ = some (Value.int .i64 t.n) := (S1.out.imp sw4).cell 1
    have b2 : World.cell? _ ⟨xb, 2, none⟩ = some (Value.string t.nm) := (S1.out.imp sw4).cell 2
    have b3 : World.cell? _ ⟨xb, 3, none⟩ = some (Value.slice ia il ic) := (S1.out.imp sw4).cell 3
    have b4 : World.cell? _ ⟨xb, 4, none⟩ = some (Value.slice ra rl rc) := (S1.out.imp sw4).cell 4
    have b5 : World.cell? _ ⟨xb, 5, none⟩ = some (Value.slice ba bl bc) := (S1.out.imp sw4).cell 5
    have SR := hid S1.out.rot3
    have hvl : vss.flatten.length = tn * 6 := by have := SR.out.rowLen; exact this.1
    have HVL := hid hvl
    have ix0 : (0 : Int) ≤ (tn : Int) := by omega
    have ix1 : (tn : Int) < (tn : Int) + 1 := by omega
    have ix2 : tn < tn + 1 := by omega
    clear hvl
    go_enter Tryd.func67, Tryd.ntmps67
    go_upto_region 5 with fail
    rw [HXB.out]
    clear S1
    go_cut [] from 19 to 31 (fun wd => ∃ ga oa c', Hid (Sat W wd (PB p s i false :: stkRow g0 o0 m c (low ++ [.int .i64 tt.k, .int .i64 0, .string ByteArray.empty, .slice (some ⟨ga, oa, none⟩) (tn + 1) c', .slice none 0 0, .slice oba 0 obc, .bool false]) :: row 25 6 (some ⟨ga, oa, none⟩) (tn + 1) c' (vss.flatten ++ [.int .i64 t.k, .int .i64 t.n, .string t.nm, .slice ia il ic, .slice ra rl rc, .slice ba bl bc]) :: arch h :: L)))
    case first =>
      go_region_law (
        refine step_pushN rfl _ _ rfl elemT rfl SR.out.drew [.int .i64 0, .int .i64 0, .string ByteArray.empty, .slice none 0 0, .slice none 0 0, .slice none 0 0] rfl rfl (by simp) (one6z) (by unfold maxLen; omega) (by omega) ?_
        intro a' c' w3 s4 ha' hz
        obtain ⟨ga, oa, hga, hcc, hff⟩ := s4.rowCells (by omega)
        subst hga
        have hgn : ga ≠ g0 := rows_ne s4
        have gl3 := row_lt s4
        have gs3 := row_lt s4.swap
        have d0 : w3.cell? ⟨xb, 0, none⟩ = some (Value.int .i64 t.k) := (s4.imp sw4).cell 0
        have d1 : w3.cell? ⟨xb, 1, none⟩ = some (Value.int .i64 t.n) := (s4.imp sw4).cell 1
        have d2 : w3.cell? ⟨xb, 2, none⟩ = some (Value.string t.nm) := (s4.imp sw4).cell 2
        have d3 : w3.cell? ⟨xb, 3, none⟩ = some (Value.slice ia il ic) := (s4.imp sw4).cell 3
        have d4 : w3.cell? ⟨xb, 4, none⟩ = some (Value.slice ra rl rc) := (s4.imp sw4).cell 4
        have d5 : w3.cell? ⟨xb, 5, none⟩ = some (Value.slice ba bl bc) := (s4.imp sw4).cell 5
        have e0 : w3.cell? ⟨ga, oa + tn * 6 + 0, none⟩ = some (Value.int .i64 0) := stk_cell s4 HVL.out rfl (by decide)
        have f0 : w3.frozen? ⟨ga, oa + tn * 6 + 0, none⟩ = false := hff _
        have e1 : w3.cell? ⟨ga, oa + tn * 6 + 1, none⟩ = some (Value.int .i64 0) := stk_cell s4 HVL.out rfl (by decide)
        have f1 : w3.frozen? ⟨ga, oa + tn * 6 + 1, none⟩ = false := hff _
        have e2 : w3.cell? ⟨ga, oa + tn * 6 + 2, none⟩ = some (Value.string ByteArray.empty) := stk_cell s4 HVL.out rfl (by decide)
        have f2 : w3.frozen? ⟨ga, oa + tn * 6 + 2, none⟩ = false := hff _
        have e3 : w3.cell? ⟨ga, oa + tn * 6 + 3, none⟩ = some (Value.slice none 0 0) := stk_cell s4 HVL.out rfl (by decide)
        have f3 : w3.frozen? ⟨ga, oa + tn * 6 + 3, none⟩ = false := hff _
        have e4 : w3.cell? ⟨ga, oa + tn * 6 + 4, none⟩ = some (Value.slice none 0 0) := stk_cell s4 HVL.out rfl (by decide)
        have f4 : w3.frozen? ⟨ga, oa + tn * 6 + 4, none⟩ = false := hff _
        have e5 : w3.cell? ⟨ga, oa + tn * 6 + 5, none⟩ = some (Value.slice none 0 0) := stk_cell s4 HVL.out rfl (by decide)
        have f5 : w3.frozen? ⟨ga, oa + tn * 6 + 5, none⟩ = false := hff _
        have f0' : w3.frozen? ⟨ga, oa + tn * 6, none⟩ = false := hff _
        rw [Nat.add_zero] at e0
        have g3 : w3.cell? ⟨g0, ob + 3, none⟩ = some (.slice oia tn oic) := stk_cell s4.swap HLOW.out HOB.out (by decide)
        have h3 : w3.frozen? ⟨g0, ob + 3, none⟩ = false := stk_free s4.swap _
        have S4 := hid s4
        clear s4 hcc SR b0 b1 b2 b3 b4 b5 c0 c1 c2 c3 c4 c5 c6 ff3)
      all_goals have t6 := ((((((stk_set (k := 0) S4.out HVL.out rfl (by decide) (.int .i64 t.k)) |> fun x => stk_set (k := 1) x HVL.out rfl (by decide) (.int .i64 t.n)) |> fun x => stk_set (k := 2) x HVL.out rfl (by decide) (.string t.nm)) |> fun x => stk_set (k := 3) x HVL.out rfl (by decide) (.slice ia il ic)) |> fun x => stk_set (k := 4) x HVL.out rfl (by decide) (.slice ra rl rc)) |> fun x => stk_set (k := 5) x HVL.out rfl (by decide) (.slice ba bl bc))
      all_goals have t7 := stk_set (k := 3) t6.swap HLOW.out HOB.out (by decide) (.slice (some ⟨ga, oa, none⟩) (tn + 1) c')
      all_goals simp only [List.set_cons_zero, List.set_cons_succ, Nat.add_zero] at t7
      all_goals have T8 : Hid (Sat W _ (PB p s i false :: stkRow g0 o0 m c (low ++ [.int .i64 tt.k, .int .i64 0, .string ByteArray.empty, .slice (some ⟨ga, oa, none⟩) (tn + 1) c', .slice none 0 0, .slice oba 0 obc, .bool false]) :: row 25 6 (some ⟨ga, oa, none⟩) (tn + 1) c' (vss.flatten ++ [.int .i64 t.k, .int .i64 t.n, .string t.nm, .slice ia il ic, .slice ra rl rc, .slice ba bl bc]) :: arch h :: L)) := hid (t7.rot4.drop.rot3)
      all_goals have u6 := stk_set (k := 3) S4.out.swap HLOW.out HOB.out (by decide) (.slice (some ⟨ga, oa, none⟩) (tn + 1) c')
      all_goals have u7 := ((((((stk_set (k := 0) u6.swap HVL.out rfl (by decide) (.int .i64 t.k)) |> fun x => stk_set (k := 1) x HVL.out rfl (by decide) (.int .i64 t.n)) |> fun x => stk_set (k := 2) x HVL.out rfl (by decide) (.string t.nm)) |> fun x => stk_set (k := 3) x HVL.out rfl (by decide) (.slice ia il ic)) |> fun x => stk_set (k := 4) x HVL.out rfl (by decide) (.slice ra rl rc)) |> fun x => stk_set (k := 5) x HVL.out rfl (by decide) (.slice ba bl bc))
      all_goals simp only [List.set_cons_zero, List.set_cons_succ, Nat.add_zero] at u7
      all_goals have T9 : Hid (Sat W _ (PB p s i false :: stkRow g0 o0 m c (low ++ [.int .i64 tt.k, .int .i64 0, .string ByteArray.empty, .slice (some ⟨ga, oa, none⟩) (tn + 1) c', .slice none 0 0, .slice oba 0 obc, .bool false]) :: row 25 6 (some ⟨ga, oa, none⟩) (tn + 1) c' (vss.flatten ++ [.int .i64 t.k, .int .i64 t.n, .string t.nm, .slice ia il ic, .slice ra rl rc, .slice ba bl bc]) :: arch h :: L)) := hid (u7.swap.rot4.drop.rot3)
      all_goals clear t6 t7 u6 u7
      all_goals go_wp2_with fail
      all_goals go_meet
      all_goals first | (with_reducible exact ⟨ga, oa, c', T8⟩) | (with_reducible exact ⟨ga, oa, c', T9⟩)
    case rest =>
      obtain ⟨ga, oa, c', S6⟩ := hcut
      clear SR b0 b1 b2 b3 b4 b5 c0 c1 c2 c3 c4 c5 c6 ff3 glt glt2 xlt
      obtain ⟨vs0, HVS⟩ : ∃ vs0 : List Value, Hid ([.int .i64 t.k, .int .i64 t.n, .string t.nm, .slice ia il ic, .slice ra rl rc, .slice ba bl bc] = vs0) := ⟨_, hid rfl⟩
      rw [HVS.out] at S6 HIN
      have hTS : TsIn h (tt.is ++ [t]) (vss ++ [vs0]) := TsIn.snoc HOD.out.ts HIN.out
      have HTS := hid hTS
      have hlen1 : (addIt tt t).is.length = tn + 1 := by show (tt.is ++ [t]).length = _; rw [List.length_append, HTN.out]; rfl
      have hfl : vss.flatten ++ vs0 = (vss ++ [vs0]).flatten := by rw [List.flatten_append]; simp
      have HLEN := hid hlen1
      have HFL := hid hfl
      have e1 : tt.n = 0 := HOD.out.n
      have e2 : tt.nm = ByteArray.empty := HOD.out.nm
      have e3 : tt.bs.length = 0 := by have hb : tt.bs = [] := HOD.out.bs; rw [hb]; rfl
      have e4 : tt.rs.length = 0 := by have hb : tt.rs = [] := HOD.out.rs; rw [hb]; rfl
      have hOD : ∀ b : Bool, OdOk h ⟨addIt tt t, b, some ⟨ga, oa, none⟩, c', oba, obc, vss ++ [vs0]⟩ := fun b => ⟨hTS, e1, e2, HOD.out.rs, HOD.out.bs, HOD.out.bc⟩
      have hOC : ∀ b : Bool, odC ⟨addIt tt t, b, some ⟨ga, oa, none⟩, c', oba, obc, vss ++ [vs0]⟩ = [.int .i64 tt.k, .int .i64 0, .string ByteArray.empty, .slice (some ⟨ga, oa, none⟩) (tn + 1) c', .slice none 0 0, .slice oba 0 obc, .bool b] := fun b => by
        unfold odC
        show ([.int .i64 tt.k, .int .i64 0, .string ByteArray.empty, .slice (some ⟨ga, oa, none⟩) (addIt tt t).is.length c', .slice none 0 0, .slice oba 0 obc, .bool b] : List Value) = _
        rw [hlen1]
      have hOR : ∀ b : Bool, odRow ⟨addIt tt t, b, some ⟨ga, oa, none⟩, c', oba, obc, vss ++ [vs0]⟩ = row 25 6 (some ⟨ga, oa, none⟩) (tn + 1) c' (vss.flatten ++ vs0) := fun b => by
        unfold odRow
        show row 25 6 (some ⟨ga, oa, none⟩) (addIt tt t).is.length c' (vss ++ [vs0]).flatten = _
        rw [hlen1, hfl]
      have hTV : tv6 (addIt tt t).k (addIt tt t).n (addIt tt t).nm (some ⟨ga, oa, none⟩) (addIt tt t).is.length c' none (addIt tt t).rs.length 0 oba (addIt tt t).bs.length obc ++ [.bool false] = [.int .i64 tt.k, .int .i64 0, .string ByteArray.empty, .slice (some ⟨ga, oa, none⟩) (tn + 1) c', .slice none 0 0, .slice oba 0 obc, .bool false] := by
        show ([.int .i64 tt.k, .int .i64 tt.n, .string tt.nm, .slice (some ⟨ga, oa, none⟩) (addIt tt t).is.length c', .slice none tt.rs.length 0, .slice oba tt.bs.length obc, .bool false] : List Value) = _
        rw [e1, e2, e3, e4, hlen1]
      have HOD2 := hid hOD
      have HOC := hid hOC
      have HOR := hid hOR
      have HTV := hid hTV
      have HSHUT : Hid (∀ (wx : World) (j : Nat), Sat W wx (PB p s j false :: stkRow g0 o0 m c (low ++ [.int .i64 tt.k, .int .i64 0, .string ByteArray.empty, .slice (some ⟨ga, oa, none⟩) (tn + 1) c', .slice none 0 0, .slice oba 0 obc, .bool false]) :: row 25 6 (some ⟨ga, oa, none⟩) (tn + 1) c' (vss.flatten ++ vs0) :: arch h :: L) → ∃ h', Le h h' ∧ TIn h' (addIt tt t) (tv6 (addIt tt t).k (addIt tt t).n (addIt tt t).nm (some ⟨ga, oa, none⟩) (addIt tt t).is.length c' none (addIt tt t).rs.length 0 oba (addIt tt t).bs.length obc) ∧ Sat W wx (PB p s j false :: stkRow g0 o0 m c (low ++ [.int .i64 tt.k, .int .i64 0, .string ByteArray.empty, .slice (some ⟨ga, oa, none⟩) (tn + 1) c', .slice none 0 0, .slice oba 0 obc, .bool false]) :: arch h' :: L)) := hid fun wx j SX => by
        have hrl := SX.rot3.rowLen
        obtain ⟨h1, l1, r1, s7⟩ := store_row SX.rot3.rot4.swap
        have hI : LIn h1 (tt.is ++ [t]) (some ⟨ga, oa, none⟩) 0 := LIn.of_rd (HTS.out.mono l1) (by rw [← HFL.out]; exact r1)
        have hB : RdIn h1 oba (u8s tt.bs) := by have hb : tt.bs = [] := HOD.out.bs; rw [hb]; exact RdIn.nil _ _
        have hR : LIn h1 tt.rs none 0 := by have hb : tt.rs = [] := HOD.out.rs; rw [hb]; exact LIn.nil _ _
        exact ⟨h1, l1, TIn.of (h := h1) (t := addIt tt t) hI hR hB ⟨by rw [HLEN.out]; exact hrl.2.1, by show tt.rs.length ≤ 0; have hb : tt.rs = [] := HOD.out.rs; rw [hb]; exact Nat.le_refl 0, by show tt.bs.length ≤ _; have hb : tt.bs = [] := HOD.out.bs; rw [hb]; exact Nat.zero_le _, hrl.2.2, by unfold maxLen; omega, HOD.out.bc⟩, s7.rot3.rot3⟩
      clear hTS hlen1 hfl e1 e2 e3 e4 hOD hOC hOR hTV HTS HLEN HFL HIN HVL
      cases ht : tk 44 (rem s i) with
      | some r2 =>
        obtain ⟨hlt, _, hr⟩ := tk_some ht
        subst hr
        have hq : q = some ((addIt tt t, false), false, rem s (i + 1)) := by rw [HQ2.out, ht]
        subst hq
        have HT := hid (take_yes S6.out 44 hs2 ht)
        clear ht S6 HQ2
        go_wp2_with fail
        refine HT.out.mono ?_
        rintro e w5 ⟨rfl, s5⟩
        have S5 := hid s5
        clear HT s5
        go_wp2_with fail
        go_ret
        exact ⟨i + 1, _, h, rfl, rfl, by omega, Le.refl h, rfl, HOD2.out false, by rw [HOC.out, HOR.out]; exact S5.out⟩
      | none =>
        have HT := hid (take_no S6.out 44 hi ht)
        by_cases k7 : tt.k = 7
        · have hq : q = match tk 124 (rem s i) with
            | some r2 => some ((addIt tt t, true), false, r2)
            | none => match tk 93 (rem s i) with | some r2 => some ((addIt tt t, false), true, r2) | none => none := by rw [HQ2.out, ht]; simp only; rw [if_pos k7]
          have HQ3 := hid hq
          have hk7 : (tt.k == 7) = true := by simpa using k7
          clear ht S6 HQ2 hq k7
          go_wp2_with fail
          refine HT.out.mono ?_
          rintro e w5 ⟨rfl, s5⟩
          have c0 : w5.cell? ⟨g0, ob + 0, none⟩ = some (.int .i64 tt.k) := stk_cell s5.swap HLOW.out HOB.out (by decide)
          rw [Nat.add_zero] at c0
          clear HT
          cases ht2 : tk 124 (rem s i) with
          | some r2 =>
            obtain ⟨hlt, _, hr⟩ := tk_some ht2
            subst hr
            have hq : q = some ((addIt tt t, true), false, rem s (i + 1)) := by rw [HQ3.out, ht2]
            subst hq
            have HT2 := hid (take_yes s5 124 hs2 ht2)
            clear ht2 s5 HQ3
            go_wp2_with fail
            refine HT2.out.mono ?_
            rintro e w6 ⟨rfl, s6⟩
            have c6 : w6.cell? ⟨g0, ob + 6, none⟩ = some (.bool false) := stk_cell s6.swap HLOW.out HOB.out (by decide)
            have f6 : w6.frozen? ⟨g0, ob + 6, none⟩ = false := stk_free s6.swap _
            have S7 := hid (stk_set (k := 6) s6.swap HLOW.out HOB.out (by decide) (.bool true)).swap
            clear HT2 s6 c0
            go_wp2_with fail
            go_ret
            exact ⟨i + 1, _, h, rfl, rfl, by omega, Le.refl h, rfl, HOD2.out true, by rw [HOC.out, HOR.out]; exact S7.out⟩
          | none =>
            have HT2 := hid (take_no s5 124 hi ht2)
            have hq : q = match tk 93 (rem s i) with | some r2 => some ((addIt tt t, false), true, r2) | none => none := by rw [HQ3.out, ht2]
            have HQ4 := hid hq
            clear ht2 s5 HQ3 hq
            go_wp2_with fail
            refine HT2.out.mono ?_
            rintro e w6 ⟨rfl, s6⟩
            have c0' : w6.cell? ⟨g0, ob + 0, none⟩ = some (.int .i64 tt.k) := stk_cell s6.swap HLOW.out HOB.out (by decide)
            rw [Nat.add_zero] at c0'
            clear HT2 c0
            cases ht3 : tk 93 (rem s i) with
            | none =>
              have hq : q = none := by rw [HQ4.out, ht3]
              subst hq
              have HT3 := hid (must_no s6 93 hi ht3)
              clear ht3 s6 HQ4
              go_wp2_with fail
              refine HT3.out.mono ?_
              rintro e w7 ⟨rfl, s7⟩
              have S7 := hid s7
              clear HT3 s7
              go_wp2_with fail
              go_ret
              exact ⟨i, _, _, _, _, _, _, _, _, _, _, _, _, false, h, rfl, hi, Le.refl h, S7.out.rot3.drop⟩
            | some r2 =>
              obtain ⟨hlt, _, hr⟩ := tk_some ht3
              subst hr
              have hq : q = some ((addIt tt t, false), true, rem s (i + 1)) := by rw [HQ4.out, ht3]
              subst hq
              have HT3 := hid (must_yes s6 93 hs2 ht3)
              clear ht3 s6 HQ4
              go_wp2_with fail
              refine HT3.out.mono ?_
              rintro e w7 ⟨rfl, s7⟩
              have S7 := hid s7
              clear HT3 s7
              go_wp2_with fail
              go_ret
              obtain ⟨h1, l1, q1, s8⟩ := HSHUT.out _ _ S7.out
              exact ⟨i + 1, some ⟨ga, oa, none⟩, c', none, 0, oba, obc, false, h1, rfl, rfl, by omega, l1, q1, by rw [HTV.out]; exact s8⟩
        · have hq : q = match tk 125 (rem s i) with | some r2 => some ((addIt tt t, false), true, r2) | none => none := by rw [HQ2.out, ht]; simp only; rw [if_neg k7]
          have HQ4 := hid hq
          have hk7 : (tt.k == 7) = false := by simpa using k7
          clear ht S6 HQ2 hq k7
          go_wp2_with fail
          refine HT.out.mono ?_
          rintro e w6 ⟨rfl, s6⟩
          have c0 : w6.cell? ⟨g0, ob + 0, none⟩ = some (.int .i64 tt.k) := stk_cell s6.swap HLOW.out HOB.out (by decide)
          rw [Nat.add_zero] at c0
          clear HT
          cases ht3 : tk 125 (rem s i) with
          | none =>
            have hq : q = none := by rw [HQ4.out, ht3]
            subst hq
            have HT3 := hid (must_no s6 125 hi ht3)
            clear ht3 s6 HQ4
            go_wp2_with fail
            refine HT3.out.mono ?_
            rintro e w7 ⟨rfl, s7⟩
            have S7 := hid s7
            clear HT3 s7
            go_wp2_with fail
            go_ret
            exact ⟨i, _, _, _, _, _, _, _, _, _, _, _, _, false, h, rfl, hi, Le.refl h, S7.out.rot3.drop⟩
          | some r2 =>
            obtain ⟨hlt, _, hr⟩ := tk_some ht3
            subst hr
            have hq : q = some ((addIt tt t, false), true, rem s (i + 1)) := by rw [HQ4.out, ht3]
            subst hq
            have HT3 := hid (must_yes s6 125 hs2 ht3)
            clear ht3 s6 HQ4
            go_wp2_with fail
            refine HT3.out.mono ?_
            rintro e w7 ⟨rfl, s7⟩
            have S7 := hid s7
            clear HT3 s7
            go_wp2_with fail
            go_ret
            obtain ⟨h1, l1, q1, s8⟩ := HSHUT.out _ _ S7.out
            exact ⟨i + 1, some ⟨ga, oa, none⟩, c', none, 0, oba, obc, false, h1, rfl, rfl, by omega, l1, q1, by rw [HTV.out]; exact s8⟩
end
#print axioms goes_any
end Go.Proofs.YteaabbghnfideaaDoor
