/-
  bif: Do; the copies of its arguments apart from all that was there. (Written by wip/gen/gen_bifds.py out of XBifD.)
-/
import Derived.Test.YtlgogflhjpcmlaaDoorBifD
import Derived.Test.YtlgogflhjpcmlaaDoorCopyS
namespace Go.Proofs.YtlgogflhjpcmlaaDoor
open Go.RowKit
set_option maxHeartbeats 4000000
set_option maxRecDepth 100000

/-- a copied argument: its items' row, and an archive of its own -/
def top (t : T) (vs : List Value) : HP := fun g => ∃ ia ic ra rc ba bc vss hn, vs = tVals t ia ic ra rc ba bc ∧ TopIn hn t ia ic ra rc ba bc vss ∧ star (row 35 6 ia t.is.length ic vss.flatten) (arch hn) g
def tops : List T → List (List Value) → HP
  | [], [] => emp
  | t :: ts, v :: vss => star (top t v) (tops ts vss)
  | _, _ => fun _ => False
def two (h : Nat → Option Obj) (ts : List T) (vss : List (List Value)) : HP := star (arch h) (tops ts vss)
theorem tops_snoc : ∀ (ts : List T) (vss : List (List Value)) (t : T) (v : List Value) (g : Nat → Option Obj), star (top t v) (tops ts vss) g → tops (ts ++ [t]) (vss ++ [v]) g
  | [], [], t, v, g, x => x
  | a :: ts, b :: vss, t, v, g, x => by
    show star (top a b) (tops (ts ++ [t]) (vss ++ [v])) g
    exact star_mono (fun _ q => q) (fun g q => tops_snoc ts vss t v g q) (star_left x)
  | [], _ :: _, _, _, _, ⟨_, _, _, q, _⟩ => q.elim
  | _ :: _, [], _, _, _, ⟨_, _, _, q, _⟩ => q.elim
section
variable {W w : World} {L : List HP} {h : Nat → Option Obj}
theorem Sat.twoNil (s : Sat W w (arch h :: L)) : Sat W w (two h [] [] :: L) := by
  have s1 : Sat W w (emp :: arch h :: L) := s.addEmp
  exact s1.swap.join
theorem two_snoc {ts : List T} {vss : List (List Value)} {x : T} {j : Nat} {hn : Nat → Option Obj} {ia ra ba : Option Addr} {ic rc bc : Nat} {ws : List (List Value)} (hx : ts[j]? = some x) (q : TopIn hn x ia ic ra rc ba bc ws)
    (s : Sat W w (row 35 6 ia x.is.length ic ws.flatten :: arch hn :: arch h :: tops (ts.take j) vss :: L)) : Sat W w (two h (ts.take (j + 1)) (vss ++ [tVals x ia ic ra rc ba bc]) :: L) := by
  have s1 : Sat W w (top x (tVals x ia ic ra rc ba bc) :: arch h :: tops (ts.take j) vss :: L) := s.join.head fun g y => ⟨ia, ic, ra, rc, ba, bc, ws, hn, rfl, q, y⟩
  have s2 : Sat W w (tops (ts.take (j + 1)) (vss ++ [tVals x ia ic ra rc ba bc]) :: arch h :: L) := by
    rw [List.take_add_one, hx]
    exact (s1.imp (under sw2)).join.head fun g y => tops_snoc _ _ _ _ g y
  exact s2.swap.join
/-- what a function of bif tells, apart from all that was there -/
def MethS (W : World) (L : List HP) (h : Nat → Option Obj) (r : Option T) (e : Ending) (w' : World) : Prop :=
  ∃ t vs h' hn ok, e = .returned (.tuple #[.agg vs.toArray, .bool ok]) ∧ Le h h' ∧ Sat W w' (arch hn :: arch h' :: L) ∧ TIn hn t vs ∧ (∀ u, r = some u → ok = true ∧ t = u) ∧ (r = none → ok = false)
def DoS (W : World) (L : List HP) (h : Nat → Option Obj) (n : Int) (r : Option T) (e : Ending) (w' : World) : Prop :=
  ∃ t vs h' hn why, e = .returned (.tuple #[.agg vs.toArray, .string why, .nilIface]) ∧ Le h h' ∧ Sat W w' (arch hn :: arch h' :: L) ∧ TIn hn t vs ∧ (∀ u, r = some u → t = u ∧ why = ⟨#[]⟩) ∧ (r = none → t = tZ0 ∧ why = reasonF n)
theorem DoS.p {n : Int} {r : Option T} {e : Ending} {w' : World} (q : DoS W L h n r e w') : DoP W L h n r e w' := by
  obtain ⟨t, vs, h', hn, why, e1, l, s, q, x, y⟩ := q
  obtain ⟨h2, l1, l2, s2⟩ := s.merge
  exact ⟨t, vs, h2, why, e1, l.trans l2, s2, TIn.mono l1 t q, x, y⟩
theorem do_sep (qS : TabS h) (S : Sat W w (arch h :: L)) (i : Nat) (l : List UInt8) (k : Nat) (hk : l.length = k + 1) (hl : nmL[i]? = some l) (m : Nat) (hm : ((l[k]'(by omega)).toNat : Int) = (m : Int) + 48) (hm2 : m ≤ 9)
    (ts : List T) (a : Option Addr) (c : Nat) (hla : LIn h ts a 0) (hn : ts.length = m) (hok : ∀ t ∈ ts, TOk t) (hrt : ∀ t ∈ ts, rightOf t = none)
    (fo : Option Nat) (hfo : (fnL.find? fun p => (⟨l.toArray⟩ : ByteArray).extract 0 k == p.1).map (·.2) = fo) (r : Option T) (hr : ∀ t, r = some t → TOk t ∧ rightOf t = none)
    (hcf : ∀ f, fo = some f → ∀ (args : Array Value) (w : World), (callFunc f args).run Tryd.prog w = .ok (.enter f args) w)
    (hmeth : ∀ (w : World) (h' : Nat → Option Obj) (L : List HP) (cb : Nat) (A : Option Addr) (ca : Nat) (vss : List (List Value)), Le h h' → Sat W w (arch h' :: row 35 6 A m ca vss.flatten :: blk cb (.cells #[.int .i64 i, .slice A m ca] 63 (0, 0)) :: tops ts vss :: L) → Calls Tryd.prog (fo.getD 31) #[.pointer (some ⟨cb, 0, none⟩)] w (MethS W L h' r)) :
    Calls Tryd.prog 18 #[.int .i64 i, .slice a m c] w (DoS W L h i r) := by
  have S1 := hid (S.allocAt (k := w.heap.size) (.cells #[.int .i64 0, .int .i64 0, .string ⟨#[]⟩, .slice none 0 0, .slice none 0 0, .slice none 0 0] 35) rfl).swap
  have HN := hid (name_ok qS S1.out i l k hk hl m hm (by omega))
  have hmm : decide ((m : Int) = m) = true := by simp
  have HL := hid hla
  have HNN := hid hn
  have HOK := hid hok
  have HRT := hid hrt
  have HFO := hid hfo
  have HR := hid hr
  have HM := hid hmeth
  have HCF := hid hcf
  clear hcf
  clear S qS hk hl hm hla hn hok hrt hfo hr hmeth S1
  go_enter Tryd.func18, Tryd.ntmps18
  go_wp2_with fail
  refine HN.out.mono ?_
  rintro e w1 ⟨rfl, s1⟩
  have S2 := hid ((s1.allocAt (k := w1.heap.size) (.cells #[.int .i64 i, .slice none 0 0] 63) rfl).rowNil (e := 35) (size := 6))
  obtain ⟨cb, HCB⟩ : ∃ cb, Hid (w1.heap.size = cb) := ⟨_, hid rfl⟩
  clear s1 HN
  rw [HCB.out] at S2
  go_wp2_with fail
  rw [HCB.out]
  go_loopw [39] (fun iv wr => ∃ (j : Nat) (A : Option Addr) (ca : Nat) (vss : List (List Value)) (h' : Nat → Option Obj), j ≤ m ∧ iv = .int .i64 j ∧ Hid (Le h h') ∧ Hid (Sat W wr (row 35 6 A j ca vss.flatten :: blk cb (.cells #[.int .i64 i, .slice A j ca] 63 (0, 0)) :: two h' (ts.take j) vss :: blk w.heap.size (.cells #[.int .i64 0, .int .i64 0, .string ⟨#[]⟩, .slice none 0 0, .slice none 0 0, .slice none 0 0] 35 (0, 0)) :: L))) (fun iv _ => m - (intOf iv).toNat)
  case atStart => exact ⟨0, none, 0, [], h, Nat.zero_le _, rfl, hid (Le.refl _), hid (S2.out.rot3.twoNil.unrot3)⟩
  case round =>
    obtain ⟨j, A, ca, vss, h', hj, rfl, HLE, S⟩ := hrel
    clear S2
    by_cases hlt : j < m
    · obtain ⟨x, hx⟩ : ∃ x, ts[j]? = some x := ⟨_, List.getElem?_eq_getElem (by have := HNN.out; omega)⟩
      obtain ⟨g, off, vs, rfl, hc, hin⟩ := (HL.out.mono HLE.out).get hx
      obtain ⟨ia, ic, ra, rc, ba, bc, rfl, _⟩ := id hin.vals
      have k0 := S.out.rot3.cut.cellIn (hc 0 _ rfl)
      have k1 := S.out.rot3.cut.cellIn (hc 1 _ rfl)
      have k2 := S.out.rot3.cut.cellIn (hc 2 _ rfl)
      have k3 := S.out.rot3.cut.cellIn (hc 3 _ rfl)
      have k4 := S.out.rot3.cut.cellIn (hc 4 _ rfl)
      have k5 := S.out.rot3.cut.cellIn (hc 5 _ rfl)
      rw [Nat.zero_add] at k0 k1 k2 k3 k4 k5
      rw [Nat.add_zero] at k0
      have hxo := HOK.out x (List.mem_of_getElem? hx)
      have S3 := hid (S.out.rot3.cut.allocAt (k := wr.heap.size) (.cells #[.int .i64 x.k, .int .i64 x.n, .string x.nm, .slice ia x.is.length ic, .slice ra x.rs.length rc, .slice ba x.bs.length bc] 35) rfl).swap
      have HRI := hid (right_t S3.out x _ hin hxo)
      have HXR := hid (HRT.out x (List.mem_of_getElem? hx))
      rw [HXR.out] at HRI
      have HIN := hid hin
      have HXO := hid hxo
      have HX := hid hx
      unfold tVals at HRI
      clear hc hin hx hxo S
      go_wp2_with fail
      refine HRI.out.mono ?_
      rintro e w2 ⟨v2, h2, rfl, l2, e2, s2⟩
      have e2 : v2 = .nilIface := e2
      subst e2
      clear HRI k0 k1 k2 k3 k4 k5 S3
      have S20 : Hid (Sat W w2 (two h2 (ts.take j) vss :: _)) := hid (s2.imp (under sw2)).join
      have SS := hid S20.out.drew
      have HLE2 := hid (HLE.out.trans l2)
      have HIN2 := hid (TIn.mono l2 x HIN.out)
      obtain ⟨xb, HXB⟩ : ∃ xb, Hid (wr.heap.size = xb) := ⟨_, hid rfl⟩
      rw [HXB.out] at SS S20
      have HF : Hid (∀ (w' : World) (A0 : HP) (M : List HP), Sat W w' (A0 :: blk xb (.cells #[.int .i64 x.k, .int .i64 x.n, .string x.nm, .slice ia x.is.length ic, .slice ra x.rs.length rc, .slice ba x.bs.length bc] 35 (0, 0)) :: M) → World.cell? w' ⟨xb, 0, none⟩ = some (.int .i64 x.k) ∧ World.cell? w' ⟨xb, 1, none⟩ = some (.int .i64 x.n) ∧ World.cell? w' ⟨xb, 2, none⟩ = some (.string x.nm) ∧ World.cell? w' ⟨xb, 3, none⟩ = some (.slice ia x.is.length ic) ∧ World.cell? w' ⟨xb, 4, none⟩ = some (.slice ra x.rs.length rc) ∧ World.cell? w' ⟨xb, 5, none⟩ = some (.slice ba x.bs.length bc)) := hid (fun w' A0 M y => ⟨(y.swap.cell 0).trans rfl, (y.swap.cell 1).trans rfl, (y.swap.cell 2).trans rfl, (y.swap.cell 3).trans rfl, (y.swap.cell 4).trans rfl, (y.swap.cell 5).trans rfl⟩)
      clear s2 l2 HLE HIN
      go_upto_region 11 with fail
      rw [HXB.out]
      have HCP : Hid (∀ (w : World) (M : List HP), Sat W w (two h2 (ts.take j) vss :: M) → Calls Tryd.prog 30 #[.agg #[.int .i64 x.k, .int .i64 x.n, .string x.nm, .slice ia x.is.length ic, .slice ra x.rs.length rc, .slice ba x.bs.length bc]] w fun e w' => ∃ ia' ic' ra' rc' ba' bc', e = .returned (.agg #[.int .i64 x.k, .int .i64 x.n, .string x.nm, .slice ia' x.is.length ic', .slice ra' x.rs.length rc', .slice ba' x.bs.length bc']) ∧ Sat W w' (two h2 (ts.take (j + 1)) (vss ++ [tVals x ia' ic' ra' rc' ba' bc']) :: M)) := hid (fun w M s => by
        refine (copyTS_t x HXO.out W w _ h2 _ s.cut HIN2.out).mono ?_
        rintro e w' ⟨ia', ic', ra', rc', ba', bc', ws, hn, rfl, q, s⟩
        exact ⟨ia', ic', ra', rc', ba', bc', rfl, (two_snoc HX.out q s)⟩)
      have HCL : Hid (∀ (w' : World) (A0 : HP) (R B : HP) (M : List HP), Sat W w' (A0 :: B :: R :: blk cb (.cells #[.int .i64 i, .slice A j ca] 63 (0, 0)) :: M) → World.cell? w' ⟨cb, 1, none⟩ = some (.slice A j ca)) := hid (fun w' h' R B M y => (y.rot4.cell 1).trans rfl)
      have HCL2 : Hid (∀ (w' : World) (A0 : HP) (R B D : HP) (M : List HP), Sat W w' (A0 :: B :: R :: D :: blk cb (.cells #[.int .i64 i, .slice A j ca] 63 (0, 0)) :: M) → World.cell? w' ⟨cb, 1, none⟩ = some (.slice A j ca)) := hid (fun w' h' R B D M y => (y.rot5.cell 1).trans rfl)
      have HXL : Hid (vss.flatten.length = j * 6) := hid (SS.out.rot3.rowLen).1
      have hSw : World.cell? w2.drew ⟨xb, 0, none⟩ = some (.int .i64 x.k) ∧ World.cell? w2.drew ⟨xb, 1, none⟩ = some (.int .i64 x.n) ∧ World.cell? w2.drew ⟨xb, 2, none⟩ = some (.string x.nm) ∧ World.cell? w2.drew ⟨xb, 3, none⟩ = some (.slice ia x.is.length ic) ∧ World.cell? w2.drew ⟨xb, 4, none⟩ = some (.slice ra x.rs.length rc) ∧ World.cell? w2.drew ⟨xb, 5, none⟩ = some (.slice ba x.bs.length bc) ∧ World.cell? w2.drew ⟨cb, 1, none⟩ = some (.slice A j ca) := and_six (HF.out _ _ _ SS.out) (HCL.out _ _ _ _ _ SS.out)
      have hj1 : (j : Int) < (j : Int) + 1 := by omega
      have hm0 : j + 1 ≤ maxLen := by unfold maxLen; omega
      refine wp_region_noPanic ?_
      refine wp_region_L (S := fun w' => World.cell? w' ⟨xb, 0, none⟩ = some (.int .i64 x.k) ∧ World.cell? w' ⟨xb, 1, none⟩ = some (.int .i64 x.n) ∧ World.cell? w' ⟨xb, 2, none⟩ = some (.string x.nm) ∧ World.cell? w' ⟨xb, 3, none⟩ = some (.slice ia x.is.length ic) ∧ World.cell? w' ⟨xb, 4, none⟩ = some (.slice ra x.rs.length rc) ∧ World.cell? w' ⟨xb, 5, none⟩ = some (.slice ba x.bs.length bc) ∧ World.cell? w' ⟨cb, 1, none⟩ = some (.slice A j ca)) 8 (by kernel_rfl) ?_
      refine wpAnyL_pure (i := 0) (d := 51) (v := ?_) rfl (by kernel_rfl) (by kernel_rfl) (by kernel_rfl) (by kernel_rfl) (by decide) (fun _ _ _ h => h) (Or.inl ⟨by rfl, ?_⟩) (fun _ => hSw) ?_
      rotate_left
      · intro w _; go_simp; all_goals with_reducible rfl
      try simp only [Act.put, List.setIfInBounds_toArray, List.set_cons_zero, List.set_cons_succ]
      refine wpAnyL_pure (i := 1) (d := 52) (v := ?_) rfl (by kernel_rfl) (by kernel_rfl) (by kernel_rfl) (by kernel_rfl) (by decide) (fun _ _ _ h => h) (Or.inl ⟨by rfl, ?_⟩) (fun _ => hSw) ?_
      rotate_left
      · intro w _; go_simp; all_goals with_reducible rfl
      try simp only [Act.put, List.setIfInBounds_toArray, List.set_cons_zero, List.set_cons_succ]
      refine wpAnyL_pure (i := 2) (d := 53) (v := ?_) rfl (by kernel_rfl) (by kernel_rfl) (by kernel_rfl) (by kernel_rfl) (by decide) (fun _ _ _ h => h) (Or.inl ⟨by rfl, ?_⟩) (fun _ => hSw) ?_
      rotate_left
      · intro w _; go_simp; all_goals with_reducible rfl
      try simp only [Act.put, List.setIfInBounds_toArray, List.set_cons_zero, List.set_cons_succ]
      refine wpAnyL_load (i := 3) (d := 54) (v := ?_) rfl (by kernel_rfl) (by kernel_rfl) (by kernel_rfl) (by kernel_rfl) (by decide) (by kernel_rfl) (by kernel_rfl) (fun _ _ _ h => h) (Or.inl ⟨by rfl, ?_⟩) hSw ?_
      rotate_left
      · intro w hSw; (try dsimp only at hSw); go_simp; all_goals with_reducible rfl
      try simp only [Act.put, List.setIfInBounds_toArray, List.set_cons_zero, List.set_cons_succ]
      refine wpAnyL_load (i := 4) (d := 55) (v := ?_) rfl (by kernel_rfl) (by kernel_rfl) (by kernel_rfl) (by kernel_rfl) (by decide) (by kernel_rfl) (by kernel_rfl) (fun _ _ _ h => h) (Or.inl ⟨by rfl, ?_⟩) hSw ?_
      rotate_left
      · intro w hSw; (try dsimp only at hSw); go_simp; all_goals with_reducible rfl
      try simp only [Act.put, List.setIfInBounds_toArray, List.set_cons_zero, List.set_cons_succ]
      refine wpAnyL_pure (i := 6) (d := 57) (v := ?_) rfl (by kernel_rfl) (by kernel_rfl) (by kernel_rfl) (by kernel_rfl) (by decide) (fun _ _ _ h => h) (Or.inl ⟨by rfl, ?_⟩) (fun _ => hSw) ?_
      rotate_left
      · intro w _; go_simp; all_goals with_reducible rfl
      try simp only [Act.put, List.setIfInBounds_toArray, List.set_cons_zero, List.set_cons_succ]
      refine wpAnyL_ready (rs := [5, 7]) (by kernel_rfl) (by simp) ?_
      refine AllL.cons (o := _) rfl (fun K hK => ?_) (AllL.cons (o := _) rfl (fun K hK => ?_) AllL.nil)
      · skip
        go_simp
        go_at_call 30
        with_reducible refine (HCP.out _ _ SS.out).mono ?_
        rintro e w3 ⟨ia', ic', ra', rc', ba', bc', rfl, s⟩
        replace SS := hid s
        clear s HCP
        replace hSw := and_six (HF.out _ _ _ SS.out) (HCL.out _ _ _ _ _ SS.out)
        refine hK.out _ _ (fun _ => hSw) ?_
        clear hK K
        try simp only [Act.put, List.setIfInBounds_toArray, List.set_cons_zero, List.set_cons_succ]
        refine wpAnyL_ready (rs := [7]) (by kernel_rfl) (by simp) ?_
        refine AllL.cons (o := _) rfl (fun K hK => ?_) AllL.nil
        go_simp
        have hpb : Hid (w3.heap.size = w3.heap.size) := hid rfl
        replace SS := hid (SS.out.alloc (.cells #[.int .i64 0, .int .i64 0, .string ⟨#[]⟩, .slice none 0 0, .slice none 0 0, .slice none 0 0] 35)).swap
        clear S20
        replace hSw := and_six (HF.out _ _ _ (SS.out.imp (under sw2))) (HCL2.out _ _ _ _ _ _ SS.out)
        refine hK.out _ _ (fun _ => hSw) ?_
        clear hK K
        try simp only [Act.put, List.setIfInBounds_toArray, List.set_cons_zero, List.set_cons_succ]
        have S5 := hid SS.out.rot4
        have HPR := hid (blk_rd (cs := [.int .i64 0, .int .i64 0, .string ⟨#[]⟩, .slice none 0 0, .slice none 0 0, .slice none 0 0]) SS.out.swap)
        clear hSw SS
        refine wpAnyL_ready (rs := [8]) (by kernel_rfl) (by simp) ?_
        refine AllL.cons (o := _) rfl (fun K hK => ?_) AllL.nil
        refine step_srcN rfl _ _ rfl elemT rfl S5.out [.int .i64 0, .int .i64 0, .string ⟨#[]⟩, .slice none 0 0, .slice none 0 0, .slice none 0 0] rfl rfl HPR.out (by simp [Value.oneCell']) hm0 (by omega) ?_
        intro a' c' w4 s4 ha' hz
        obtain ⟨g2, off2, rfl, q1, q2⟩ := s4.rowCells (Nat.succ_pos j)
        clear q1 q2
        have S6 := hid s4.rot5.swap
        clear s4 ha' hz S5 HPR
        refine hK.out _ _ (fun hv => absurd hv (by decide +kernel)) ?_
        clear hK K
        try simp only [Act.put, List.setIfInBounds_toArray, List.set_cons_zero, List.set_cons_succ]
        obtain ⟨kz0, kz1, kz2, kz3, kz4, kz5⟩ := row_last6 S6.out HXL.out
        obtain ⟨fz0, fz1, fz2, fz3, fz4, fz5⟩ := row_free6 (k := j * 6) S6.out
        have c1 : World.cell? w4 ⟨cb, 1, none⟩ = some (.slice A j ca) := S6.out.swap.cell 1
        have f1 := S6.out.swap.free 1
        have n1 : ¬ g2 = cb := row_ne S6.out
        have n2 : ¬ cb = g2 := fun x => n1 x.symm
        refine wpAnyL_pure (i := 9) (d := 60) (v := ?_) rfl (by kernel_rfl) (by kernel_rfl) (by kernel_rfl) (by kernel_rfl) (by decide) (fun _ _ _ h => h) (Or.inl ⟨by rfl, ?_⟩) (fun hv => absurd hv (by decide +kernel)) ?_
        rotate_left
        · intro w _; go_simp; all_goals with_reducible rfl
        try simp only [Act.put, List.setIfInBounds_toArray, List.set_cons_zero, List.set_cons_succ]
        refine wpAnyL_pure (i := 11) (d := 61) (v := ?_) rfl (by kernel_rfl) (by kernel_rfl) (by kernel_rfl) (by kernel_rfl) (by decide) (fun _ _ _ h => h) (Or.inl ⟨by rfl, ?_⟩) (fun hv => absurd hv (by decide +kernel)) ?_
        rotate_left
        · intro w _; go_simp; all_goals with_reducible rfl
        try simp only [Act.put, List.setIfInBounds_toArray, List.set_cons_zero, List.set_cons_succ]
        refine wpAnyL_pure (i := 12) (d := 62) (v := ?_) rfl (by kernel_rfl) (by kernel_rfl) (by kernel_rfl) (by kernel_rfl) (by decide) (fun _ _ _ h => h) (Or.inl ⟨by rfl, ?_⟩) (fun hv => absurd hv (by decide +kernel)) ?_
        rotate_left
        · intro w _; go_simp; all_goals with_reducible rfl
        try simp only [Act.put, List.setIfInBounds_toArray, List.set_cons_zero, List.set_cons_succ]
        refine wpAnyL_ready (rs := [10, 13]) (by kernel_rfl) (by simp) ?_
        refine AllL.cons (o := _) rfl (fun K hK => ?_) (AllL.cons (o := _) rfl (fun K hK => ?_) AllL.nil)
        · skip
          go_simp
          refine hK.out _ _ (fun hv => absurd hv (by decide +kernel)) ?_
          clear hK K
          try simp only [Act.put, List.setIfInBounds_toArray, List.set_cons_zero, List.set_cons_succ]
          refine wpAnyL_ready (rs := [13]) (by kernel_rfl) (by simp) ?_
          refine AllL.cons (o := _) rfl (fun K hK => ?_) AllL.nil
          go_simp
          refine hK.out _ _ (fun hv => absurd hv (by decide +kernel)) ?_
          clear hK K
          try simp only [Act.put, List.setIfInBounds_toArray, List.set_cons_zero, List.set_cons_succ]
          have S7 := hid ((S6.out.rowSet6 HXL.out (.int .i64 x.k) (.int .i64 x.n) (.string x.nm) (.slice ia' x.is.length ic') (.slice ra' x.rs.length rc') (.slice ba' x.bs.length bc')).swap.set 1 (.slice (some ⟨g2, off2, none⟩) (j + 1) c'))
          clear kz0 kz1 kz2 kz3 kz4 kz5 fz0 fz1 fz2 fz3 fz4 fz5 c1 f1 n1 n2 S6
          refine wpAnyL_done (by kernel_rfl) ?_ _
          refine NoPanic.normal ?_
          have HLE3 := HLE2
          have S8 := hid S7.out.swap.rot4.drop.rot4.drop
          rw [show vss.flatten ++ [.int .i64 x.k, .int .i64 x.n, .string x.nm, .slice ia' x.is.length ic', .slice ra' x.rs.length rc', .slice ba' x.bs.length bc'] = (vss ++ [tVals x ia' ic' ra' rc' ba' bc']).flatten by simp [tVals]] at S8
          clear S7
          go_wp2_with fail
          go_roundw
          case rel => exact ⟨j + 1, some ⟨g2, off2, none⟩, c', vss ++ [tVals x ia' ic' ra' rc' ba' bc'], h2, by omega, by go_num, HLE3, S8⟩
          case measure => simp [intOf]; omega
        · skip
          go_simp
          refine hK.out _ _ (fun hv => absurd hv (by decide +kernel)) ?_
          clear hK K
          try simp only [Act.put, List.setIfInBounds_toArray, List.set_cons_zero, List.set_cons_succ]
          refine wpAnyL_ready (rs := [10]) (by kernel_rfl) (by simp) ?_
          refine AllL.cons (o := _) rfl (fun K hK => ?_) AllL.nil
          go_simp
          refine hK.out _ _ (fun hv => absurd hv (by decide +kernel)) ?_
          clear hK K
          try simp only [Act.put, List.setIfInBounds_toArray, List.set_cons_zero, List.set_cons_succ]
          have S7 := hid ((S6.out.swap.set 1 (.slice (some ⟨g2, off2, none⟩) (j + 1) c')).swap.rowSet6 HXL.out (.int .i64 x.k) (.int .i64 x.n) (.string x.nm) (.slice ia' x.is.length ic') (.slice ra' x.rs.length rc') (.slice ba' x.bs.length bc')).swap
          clear kz0 kz1 kz2 kz3 kz4 kz5 fz0 fz1 fz2 fz3 fz4 fz5 c1 f1 n1 n2 S6
          refine wpAnyL_done (by kernel_rfl) ?_ _
          refine NoPanic.normal ?_
          have HLE3 := HLE2
          have S8 := hid S7.out.swap.rot4.drop.rot4.drop
          rw [show vss.flatten ++ [.int .i64 x.k, .int .i64 x.n, .string x.nm, .slice ia' x.is.length ic', .slice ra' x.rs.length rc', .slice ba' x.bs.length bc'] = (vss ++ [tVals x ia' ic' ra' rc' ba' bc']).flatten by simp [tVals]] at S8
          clear S7
          go_wp2_with fail
          go_roundw
          case rel => exact ⟨j + 1, some ⟨g2, off2, none⟩, c', vss ++ [tVals x ia' ic' ra' rc' ba' bc'], h2, by omega, by go_num, HLE3, S8⟩
          case measure => simp [intOf]; omega
      · skip
        go_simp
        have hpb : Hid (w2.drew.heap.size = w2.drew.heap.size) := hid rfl
        replace SS := hid (S20.out.alloc (.cells #[.int .i64 0, .int .i64 0, .string ⟨#[]⟩, .slice none 0 0, .slice none 0 0, .slice none 0 0] 35)).swap.drew
        clear S20
        replace hSw := and_six (HF.out _ _ _ (SS.out.imp (under sw2))) (HCL2.out _ _ _ _ _ _ SS.out)
        refine hK.out _ _ (fun _ => hSw) ?_
        clear hK K
        try simp only [Act.put, List.setIfInBounds_toArray, List.set_cons_zero, List.set_cons_succ]
        refine wpAnyL_ready (rs := [5]) (by kernel_rfl) (by simp) ?_
        refine AllL.cons (o := _) rfl (fun K hK => ?_) AllL.nil
        go_simp
        go_at_call 30
        with_reducible refine (HCP.out _ _ SS.out).mono ?_
        rintro e w3 ⟨ia', ic', ra', rc', ba', bc', rfl, s⟩
        replace SS := hid s
        clear s HCP
        replace hSw := and_six (HF.out _ _ _ (SS.out.imp (under sw2))) (HCL2.out _ _ _ _ _ _ SS.out)
        refine hK.out _ _ (fun _ => hSw) ?_
        clear hK K
        try simp only [Act.put, List.setIfInBounds_toArray, List.set_cons_zero, List.set_cons_succ]
        have S5 := hid SS.out.rot4
        have HPR := hid (blk_rd (cs := [.int .i64 0, .int .i64 0, .string ⟨#[]⟩, .slice none 0 0, .slice none 0 0, .slice none 0 0]) SS.out.swap)
        clear hSw SS
        refine wpAnyL_ready (rs := [8]) (by kernel_rfl) (by simp) ?_
        refine AllL.cons (o := _) rfl (fun K hK => ?_) AllL.nil
        refine step_srcN rfl _ _ rfl elemT rfl S5.out [.int .i64 0, .int .i64 0, .string ⟨#[]⟩, .slice none 0 0, .slice none 0 0, .slice none 0 0] rfl rfl HPR.out (by simp [Value.oneCell']) hm0 (by omega) ?_
        intro a' c' w4 s4 ha' hz
        obtain ⟨g2, off2, rfl, q1, q2⟩ := s4.rowCells (Nat.succ_pos j)
        clear q1 q2
        have S6 := hid s4.rot5.swap
        clear s4 ha' hz S5 HPR
        refine hK.out _ _ (fun hv => absurd hv (by decide +kernel)) ?_
        clear hK K
        try simp only [Act.put, List.setIfInBounds_toArray, List.set_cons_zero, List.set_cons_succ]
        obtain ⟨kz0, kz1, kz2, kz3, kz4, kz5⟩ := row_last6 S6.out HXL.out
        obtain ⟨fz0, fz1, fz2, fz3, fz4, fz5⟩ := row_free6 (k := j * 6) S6.out
        have c1 : World.cell? w4 ⟨cb, 1, none⟩ = some (.slice A j ca) := S6.out.swap.cell 1
        have f1 := S6.out.swap.free 1
        have n1 : ¬ g2 = cb := row_ne S6.out
        have n2 : ¬ cb = g2 := fun x => n1 x.symm
        refine wpAnyL_pure (i := 9) (d := 60) (v := ?_) rfl (by kernel_rfl) (by kernel_rfl) (by kernel_rfl) (by kernel_rfl) (by decide) (fun _ _ _ h => h) (Or.inl ⟨by rfl, ?_⟩) (fun hv => absurd hv (by decide +kernel)) ?_
        rotate_left
        · intro w _; go_simp; all_goals with_reducible rfl
        try simp only [Act.put, List.setIfInBounds_toArray, List.set_cons_zero, List.set_cons_succ]
        refine wpAnyL_pure (i := 11) (d := 61) (v := ?_) rfl (by kernel_rfl) (by kernel_rfl) (by kernel_rfl) (by kernel_rfl) (by decide) (fun _ _ _ h => h) (Or.inl ⟨by rfl, ?_⟩) (fun hv => absurd hv (by decide +kernel)) ?_
        rotate_left
        · intro w _; go_simp; all_goals with_reducible rfl
        try simp only [Act.put, List.setIfInBounds_toArray, List.set_cons_zero, List.set_cons_succ]
        refine wpAnyL_pure (i := 12) (d := 62) (v := ?_) rfl (by kernel_rfl) (by kernel_rfl) (by kernel_rfl) (by kernel_rfl) (by decide) (fun _ _ _ h => h) (Or.inl ⟨by rfl, ?_⟩) (fun hv => absurd hv (by decide +kernel)) ?_
        rotate_left
        · intro w _; go_simp; all_goals with_reducible rfl
        try simp only [Act.put, List.setIfInBounds_toArray, List.set_cons_zero, List.set_cons_succ]
        refine wpAnyL_ready (rs := [10, 13]) (by kernel_rfl) (by simp) ?_
        refine AllL.cons (o := _) rfl (fun K hK => ?_) (AllL.cons (o := _) rfl (fun K hK => ?_) AllL.nil)
        · skip
          go_simp
          refine hK.out _ _ (fun hv => absurd hv (by decide +kernel)) ?_
          clear hK K
          try simp only [Act.put, List.setIfInBounds_toArray, List.set_cons_zero, List.set_cons_succ]
          refine wpAnyL_ready (rs := [13]) (by kernel_rfl) (by simp) ?_
          refine AllL.cons (o := _) rfl (fun K hK => ?_) AllL.nil
          go_simp
          refine hK.out _ _ (fun hv => absurd hv (by decide +kernel)) ?_
          clear hK K
          try simp only [Act.put, List.setIfInBounds_toArray, List.set_cons_zero, List.set_cons_succ]
          have S7 := hid ((S6.out.rowSet6 HXL.out (.int .i64 x.k) (.int .i64 x.n) (.string x.nm) (.slice ia' x.is.length ic') (.slice ra' x.rs.length rc') (.slice ba' x.bs.length bc')).swap.set 1 (.slice (some ⟨g2, off2, none⟩) (j + 1) c'))
          clear kz0 kz1 kz2 kz3 kz4 kz5 fz0 fz1 fz2 fz3 fz4 fz5 c1 f1 n1 n2 S6
          refine wpAnyL_done (by kernel_rfl) ?_ _
          refine NoPanic.normal ?_
          have HLE3 := HLE2
          have S8 := hid S7.out.swap.rot4.drop.rot4.drop
          rw [show vss.flatten ++ [.int .i64 x.k, .int .i64 x.n, .string x.nm, .slice ia' x.is.length ic', .slice ra' x.rs.length rc', .slice ba' x.bs.length bc'] = (vss ++ [tVals x ia' ic' ra' rc' ba' bc']).flatten by simp [tVals]] at S8
          clear S7
          go_wp2_with fail
          go_roundw
          case rel => exact ⟨j + 1, some ⟨g2, off2, none⟩, c', vss ++ [tVals x ia' ic' ra' rc' ba' bc'], h2, by omega, by go_num, HLE3, S8⟩
          case measure => simp [intOf]; omega
        · skip
          go_simp
          refine hK.out _ _ (fun hv => absurd hv (by decide +kernel)) ?_
          clear hK K
          try simp only [Act.put, List.setIfInBounds_toArray, List.set_cons_zero, List.set_cons_succ]
          refine wpAnyL_ready (rs := [10]) (by kernel_rfl) (by simp) ?_
          refine AllL.cons (o := _) rfl (fun K hK => ?_) AllL.nil
          go_simp
          refine hK.out _ _ (fun hv => absurd hv (by decide +kernel)) ?_
          clear hK K
          try simp only [Act.put, List.setIfInBounds_toArray, List.set_cons_zero, List.set_cons_succ]
          have S7 := hid ((S6.out.swap.set 1 (.slice (some ⟨g2, off2, none⟩) (j + 1) c')).swap.rowSet6 HXL.out (.int .i64 x.k) (.int .i64 x.n) (.string x.nm) (.slice ia' x.is.length ic') (.slice ra' x.rs.length rc') (.slice ba' x.bs.length bc')).swap
          clear kz0 kz1 kz2 kz3 kz4 kz5 fz0 fz1 fz2 fz3 fz4 fz5 c1 f1 n1 n2 S6
          refine wpAnyL_done (by kernel_rfl) ?_ _
          refine NoPanic.normal ?_
          have HLE3 := HLE2
          have S8 := hid S7.out.swap.rot4.drop.rot4.drop
          rw [show vss.flatten ++ [.int .i64 x.k, .int .i64 x.n, .string x.nm, .slice ia' x.is.length ic', .slice ra' x.rs.length rc', .slice ba' x.bs.length bc'] = (vss ++ [tVals x ia' ic' ra' rc' ba' bc']).flatten by simp [tVals]] at S8
          clear S7
          go_wp2_with fail
          go_roundw
          case rel => exact ⟨j + 1, some ⟨g2, off2, none⟩, c', vss ++ [tVals x ia' ic' ra' rc' ba' bc'], h2, by omega, by go_num, HLE3, S8⟩
          case measure => simp [intOf]; omega
    · obtain rfl : j = m := by omega
      have hS := S.out
      rw [List.take_of_length_le (by rw [HNN.out]; exact Nat.le_refl _)] at hS
      have S3 := hid (hS.rot3.cut)
      have HLE3 := HLE
      clear hS S HLE
      have HFN := hid (functions_any S3.out (.pointer (some ⟨cb, 0, none⟩)))
      go_wp2_with fail
      refine HFN.out.mono ?_
      rintro e w4 ⟨mb, cl, rfl, s4⟩
      have S4 := hid s4
      clear s4 HFN
      obtain ⟨kk, hf⟩ := find_mkE (.pointer (some ⟨cb, 0, none⟩)) ((⟨l.toArray⟩ : ByteArray).extract 0 k) fnL 0 0
      have hst : ∃ fn, fn = fo.getD 31 ∧ ∃ r', (fo = none → r' = none) ∧ (∀ f, fo = some f → ∃ kk, r' = some (kk, fnV (.pointer (some ⟨cb, 0, none⟩)) f)) ∧ Instr.findNow .string (.string ((⟨l.toArray⟩ : ByteArray).extract 0 k)) (mkE (.pointer (some ⟨cb, 0, none⟩)) 0 fnL) 0 = some r' := by
        refine ⟨_, rfl, _, ?_, ?_, hf⟩
        · intro h0
          have := HFO.out
          rw [h0, Option.map_eq_none_iff] at this
          rw [this]; rfl
        · intro f h0
          have := HFO.out
          rw [h0, Option.map_eq_some_iff] at this
          obtain ⟨p, hp, rfl⟩ := this
          exact ⟨kk, by rw [hp]; rfl⟩
      obtain ⟨fn, hfn, r', h1, h2', hf'⟩ := hst
      clear hf
      have hzv : (zeroValue 65).run Tryd.prog w4 = .ok .nilFunc w4 := by rw [Tryd.zeroValue65]
      cases fo with
      | none =>
        obtain rfl := h1 rfl
        have HMC : Hid (Calls Tryd.prog 31 #[.pointer (some ⟨cb, 0, none⟩)] w4 (MethS W (blk w.heap.size (.cells #[.int .i64 0, .int .i64 0, .string ⟨#[]⟩, .slice none 0 0, .slice none 0 0, .slice none 0 0] 35 (0, 0)) :: L) h' r)) := hid (HM.out w4 h' _ cb A ca vss HLE3.out (S4.out.drop.swap.unrot4))
        clear h1 h2' HM hfn
        go_wp2_with (at_lookup; refine wpList_lookup_sat rfl _ _ 67 rfl 9 65 Tryd.underlying67 Tryd.underlying9 rfl rfl S4.out hzv hf' ?_)
        refine HMC.out.mono ?_
        rintro e w5 ⟨t, vs5, h5, hm5, ok, rfl, l5, s5, q5, hs, hn⟩
        obtain ⟨ja, jc, sa, sc, da, dc, rfl, _⟩ := id q5.vals
        clear HMC
        unfold tVals
        have HLE5 := hid (HLE3.out.trans l5)
        have HQ5 : Hid (TIn hm5 t [.int .i64 t.k, .int .i64 t.n, .string t.nm, .slice ja t.is.length jc, .slice sa t.rs.length sc, .slice da t.bs.length dc]) := hid q5
        have S6 := hid (s5.allocAt (k := w5.heap.size) (.cells #[.int .i64 t.k, .int .i64 t.n, .string t.nm, .slice ja t.is.length jc, .slice sa t.rs.length sc, .slice da t.bs.length dc] 35) rfl).swap
        clear l5 s5 q5 S4
        cases ok with
        | true =>
          obtain ⟨u, hu⟩ : ∃ u, r = some u := by
            cases hr : r with
            | none => exact absurd (hn hr) (by simp)
            | some u => exact ⟨u, rfl⟩
          obtain ⟨_, rfl⟩ := hs u hu
          obtain ⟨hok, hri⟩ := HR.out t hu
          have HRI := hid (right_lit S6.out t HQ5.out hok)
          rw [hri] at HRI
          have HU := hid hu
          clear hs hn hok hri hu
          go_wp2_with fail
          refine HRI.out.mono ?_
          rintro e w6 ⟨v2, h6, rfl, l6, e2, s6⟩
          have e2 : v2 = .nilIface := e2
          subst e2
          have S7 := hid s6
          have HLE6 := HLE5
          have HQ6 := hid (TIn.mono l6 t HQ5.out)
          clear l6 s6 S6 HRI HQ5
          have k0 : World.cell? w6 ⟨w5.heap.size, 0, none⟩ = some (.int .i64 t.k) := S7.out.swap.cell 0
          have z0 : World.cell? w6 ⟨w.heap.size, 0, none⟩ = some (.int .i64 0) := S7.out.rot4.cell 0
          have f0 := S7.out.rot4.free 0
          have k1 : World.cell? w6 ⟨w5.heap.size, 1, none⟩ = some (.int .i64 t.n) := S7.out.swap.cell 1
          have z1 : World.cell? w6 ⟨w.heap.size, 1, none⟩ = some (.int .i64 0) := S7.out.rot4.cell 1
          have f1 := S7.out.rot4.free 1
          have k2 : World.cell? w6 ⟨w5.heap.size, 2, none⟩ = some (.string t.nm) := S7.out.swap.cell 2
          have z2 : World.cell? w6 ⟨w.heap.size, 2, none⟩ = some (.string ⟨#[]⟩) := S7.out.rot4.cell 2
          have f2 := S7.out.rot4.free 2
          have k3 : World.cell? w6 ⟨w5.heap.size, 3, none⟩ = some (.slice ja t.is.length jc) := S7.out.swap.cell 3
          have z3 : World.cell? w6 ⟨w.heap.size, 3, none⟩ = some (.slice none 0 0) := S7.out.rot4.cell 3
          have f3 := S7.out.rot4.free 3
          have k4 : World.cell? w6 ⟨w5.heap.size, 4, none⟩ = some (.slice sa t.rs.length sc) := S7.out.swap.cell 4
          have z4 : World.cell? w6 ⟨w.heap.size, 4, none⟩ = some (.slice none 0 0) := S7.out.rot4.cell 4
          have f4 := S7.out.rot4.free 4
          have k5 : World.cell? w6 ⟨w5.heap.size, 5, none⟩ = some (.slice da t.bs.length dc) := S7.out.swap.cell 5
          have z5 : World.cell? w6 ⟨w.heap.size, 5, none⟩ = some (.slice none 0 0) := S7.out.rot4.cell 5
          have f5 := S7.out.rot4.free 5
          go_wp2_with fail
          have s8 := ((((((S7.out.rot4.set 0 (.int .i64 t.k)).set 1 (.int .i64 t.n)).set 2 (.string t.nm)).set 3 (.slice ja t.is.length jc)).set 4 (.slice sa t.rs.length sc)).set 5 (.slice da t.bs.length dc)).drop.swap.drop
          refine bodyPost_ret (v := .tuple #[.agg #[.int .i64 t.k, .int .i64 t.n, .string t.nm, .slice ja t.is.length jc, .slice sa t.rs.length sc, .slice da t.bs.length dc], .string ⟨#[]⟩, .nilIface]) (by simp [results, Tryd.results18, go_sem, z0, z1, z2, z3, z4, z5]) rfl ?_
          exact ⟨t, [.int .i64 t.k, .int .i64 t.n, .string t.nm, .slice ja t.is.length jc, .slice sa t.rs.length sc, .slice da t.bs.length dc], h5, h6, ⟨#[]⟩, rfl, HLE6.out, s8, HQ6.out, (fun v hv => by rw [HU.out] at hv; cases hv; exact ⟨rfl, rfl⟩), (fun hv => by rw [HU.out] at hv; cases hv)⟩
        | false =>
          have hr0 : r = none := by
            cases hr : r with
            | none => rfl
            | some u => exact absurd (hs u hr).1 (by simp)
          have HRE := hid (reason_any S6.out i)
          have HU := hid hr0
          clear hs hn hr0
          go_wp2_with fail
          refine HRE.out.mono ?_
          rintro e w6 ⟨rfl, s6⟩
          have S7 := hid s6
          clear s6 S6 HRE
          have z0 : World.cell? w6 ⟨w.heap.size, 0, none⟩ = some (.int .i64 0) := S7.out.rot4.cell 0
          have f0 := S7.out.rot4.free 0
          have z1 : World.cell? w6 ⟨w.heap.size, 1, none⟩ = some (.int .i64 0) := S7.out.rot4.cell 1
          have f1 := S7.out.rot4.free 1
          have z2 : World.cell? w6 ⟨w.heap.size, 2, none⟩ = some (.string ⟨#[]⟩) := S7.out.rot4.cell 2
          have f2 := S7.out.rot4.free 2
          have z3 : World.cell? w6 ⟨w.heap.size, 3, none⟩ = some (.slice none 0 0) := S7.out.rot4.cell 3
          have f3 := S7.out.rot4.free 3
          have z4 : World.cell? w6 ⟨w.heap.size, 4, none⟩ = some (.slice none 0 0) := S7.out.rot4.cell 4
          have f4 := S7.out.rot4.free 4
          have z5 : World.cell? w6 ⟨w.heap.size, 5, none⟩ = some (.slice none 0 0) := S7.out.rot4.cell 5
          have f5 := S7.out.rot4.free 5
          go_wp2_with fail
          have s8 := ((((((S7.out.rot4.set 0 (.int .i64 0)).set 1 (.int .i64 0)).set 2 (.string ⟨#[]⟩)).set 3 (.slice none 0 0)).set 4 (.slice none 0 0)).set 5 (.slice none 0 0)).drop.swap.drop
          refine bodyPost_ret (v := .tuple #[.agg #[.int .i64 0, .int .i64 0, .string ⟨#[]⟩, .slice none 0 0, .slice none 0 0, .slice none 0 0], .string (reasonF i), .nilIface]) (by simp [results, Tryd.results18, go_sem, z0, z1, z2, z3, z4, z5]) rfl ?_
          exact ⟨tZ0, _, h5, hm5, reasonF i, rfl, HLE5.out, s8, in_Z0 _, (fun v hv => by rw [HU.out] at hv; cases hv), (fun _ => ⟨rfl, rfl⟩)⟩
      | some f =>
        obtain ⟨kk2, rfl⟩ := h2' f rfl
        have HMC : Hid (Calls Tryd.prog f #[.pointer (some ⟨cb, 0, none⟩)] w4 (MethS W (blk w.heap.size (.cells #[.int .i64 0, .int .i64 0, .string ⟨#[]⟩, .slice none 0 0, .slice none 0 0, .slice none 0 0] 35 (0, 0)) :: L) h' r)) := hid (HM.out w4 h' _ cb A ca vss HLE3.out (S4.out.drop.swap.unrot4))
        have hcf := HCF.out f rfl
        clear h1 h2' HM hfn HCF
        unfold fnV at hf'
        go_wp2_with (at_lookup; refine wpList_lookup_sat rfl _ _ 67 rfl 9 65 Tryd.underlying67 Tryd.underlying9 rfl rfl S4.out hzv hf' ?_)
        refine HMC.out.mono ?_
        rintro e w5 ⟨t, vs5, h5, hm5, ok, rfl, l5, s5, q5, hs, hn⟩
        obtain ⟨ja, jc, sa, sc, da, dc, rfl, _⟩ := id q5.vals
        clear HMC
        unfold tVals
        have HLE5 := hid (HLE3.out.trans l5)
        have HQ5 : Hid (TIn hm5 t [.int .i64 t.k, .int .i64 t.n, .string t.nm, .slice ja t.is.length jc, .slice sa t.rs.length sc, .slice da t.bs.length dc]) := hid q5
        have S6 := hid (s5.allocAt (k := w5.heap.size) (.cells #[.int .i64 t.k, .int .i64 t.n, .string t.nm, .slice ja t.is.length jc, .slice sa t.rs.length sc, .slice da t.bs.length dc] 35) rfl).swap
        clear l5 s5 q5 S4
        cases ok with
        | true =>
          obtain ⟨u, hu⟩ : ∃ u, r = some u := by
            cases hr : r with
            | none => exact absurd (hn hr) (by simp)
            | some u => exact ⟨u, rfl⟩
          obtain ⟨_, rfl⟩ := hs u hu
          obtain ⟨hok, hri⟩ := HR.out t hu
          have HRI := hid (right_lit S6.out t HQ5.out hok)
          rw [hri] at HRI
          have HU := hid hu
          clear hs hn hok hri hu
          go_wp2_with fail
          refine HRI.out.mono ?_
          rintro e w6 ⟨v2, h6, rfl, l6, e2, s6⟩
          have e2 : v2 = .nilIface := e2
          subst e2
          have S7 := hid s6
          have HLE6 := HLE5
          have HQ6 := hid (TIn.mono l6 t HQ5.out)
          clear l6 s6 S6 HRI HQ5
          have k0 : World.cell? w6 ⟨w5.heap.size, 0, none⟩ = some (.int .i64 t.k) := S7.out.swap.cell 0
          have z0 : World.cell? w6 ⟨w.heap.size, 0, none⟩ = some (.int .i64 0) := S7.out.rot4.cell 0
          have f0 := S7.out.rot4.free 0
          have k1 : World.cell? w6 ⟨w5.heap.size, 1, none⟩ = some (.int .i64 t.n) := S7.out.swap.cell 1
          have z1 : World.cell? w6 ⟨w.heap.size, 1, none⟩ = some (.int .i64 0) := S7.out.rot4.cell 1
          have f1 := S7.out.rot4.free 1
          have k2 : World.cell? w6 ⟨w5.heap.size, 2, none⟩ = some (.string t.nm) := S7.out.swap.cell 2
          have z2 : World.cell? w6 ⟨w.heap.size, 2, none⟩ = some (.string ⟨#[]⟩) := S7.out.rot4.cell 2
          have f2 := S7.out.rot4.free 2
          have k3 : World.cell? w6 ⟨w5.heap.size, 3, none⟩ = some (.slice ja t.is.length jc) := S7.out.swap.cell 3
          have z3 : World.cell? w6 ⟨w.heap.size, 3, none⟩ = some (.slice none 0 0) := S7.out.rot4.cell 3
          have f3 := S7.out.rot4.free 3
          have k4 : World.cell? w6 ⟨w5.heap.size, 4, none⟩ = some (.slice sa t.rs.length sc) := S7.out.swap.cell 4
          have z4 : World.cell? w6 ⟨w.heap.size, 4, none⟩ = some (.slice none 0 0) := S7.out.rot4.cell 4
          have f4 := S7.out.rot4.free 4
          have k5 : World.cell? w6 ⟨w5.heap.size, 5, none⟩ = some (.slice da t.bs.length dc) := S7.out.swap.cell 5
          have z5 : World.cell? w6 ⟨w.heap.size, 5, none⟩ = some (.slice none 0 0) := S7.out.rot4.cell 5
          have f5 := S7.out.rot4.free 5
          go_wp2_with fail
          have s8 := ((((((S7.out.rot4.set 0 (.int .i64 t.k)).set 1 (.int .i64 t.n)).set 2 (.string t.nm)).set 3 (.slice ja t.is.length jc)).set 4 (.slice sa t.rs.length sc)).set 5 (.slice da t.bs.length dc)).drop.swap.drop
          refine bodyPost_ret (v := .tuple #[.agg #[.int .i64 t.k, .int .i64 t.n, .string t.nm, .slice ja t.is.length jc, .slice sa t.rs.length sc, .slice da t.bs.length dc], .string ⟨#[]⟩, .nilIface]) (by simp [results, Tryd.results18, go_sem, z0, z1, z2, z3, z4, z5]) rfl ?_
          exact ⟨t, [.int .i64 t.k, .int .i64 t.n, .string t.nm, .slice ja t.is.length jc, .slice sa t.rs.length sc, .slice da t.bs.length dc], h5, h6, ⟨#[]⟩, rfl, HLE6.out, s8, HQ6.out, (fun v hv => by rw [HU.out] at hv; cases hv; exact ⟨rfl, rfl⟩), (fun hv => by rw [HU.out] at hv; cases hv)⟩
        | false =>
          have hr0 : r = none := by
            cases hr : r with
            | none => rfl
            | some u => exact absurd (hs u hr).1 (by simp)
          have HRE := hid (reason_any S6.out i)
          have HU := hid hr0
          clear hs hn hr0
          go_wp2_with fail
          refine HRE.out.mono ?_
          rintro e w6 ⟨rfl, s6⟩
          have S7 := hid s6
          clear s6 S6 HRE
          have z0 : World.cell? w6 ⟨w.heap.size, 0, none⟩ = some (.int .i64 0) := S7.out.rot4.cell 0
          have f0 := S7.out.rot4.free 0
          have z1 : World.cell? w6 ⟨w.heap.size, 1, none⟩ = some (.int .i64 0) := S7.out.rot4.cell 1
          have f1 := S7.out.rot4.free 1
          have z2 : World.cell? w6 ⟨w.heap.size, 2, none⟩ = some (.string ⟨#[]⟩) := S7.out.rot4.cell 2
          have f2 := S7.out.rot4.free 2
          have z3 : World.cell? w6 ⟨w.heap.size, 3, none⟩ = some (.slice none 0 0) := S7.out.rot4.cell 3
          have f3 := S7.out.rot4.free 3
          have z4 : World.cell? w6 ⟨w.heap.size, 4, none⟩ = some (.slice none 0 0) := S7.out.rot4.cell 4
          have f4 := S7.out.rot4.free 4
          have z5 : World.cell? w6 ⟨w.heap.size, 5, none⟩ = some (.slice none 0 0) := S7.out.rot4.cell 5
          have f5 := S7.out.rot4.free 5
          go_wp2_with fail
          have s8 := ((((((S7.out.rot4.set 0 (.int .i64 0)).set 1 (.int .i64 0)).set 2 (.string ⟨#[]⟩)).set 3 (.slice none 0 0)).set 4 (.slice none 0 0)).set 5 (.slice none 0 0)).drop.swap.drop
          refine bodyPost_ret (v := .tuple #[.agg #[.int .i64 0, .int .i64 0, .string ⟨#[]⟩, .slice none 0 0, .slice none 0 0, .slice none 0 0], .string (reasonF i), .nilIface]) (by simp [results, Tryd.results18, go_sem, z0, z1, z2, z3, z4, z5]) rfl ?_
          exact ⟨tZ0, _, h5, hm5, reasonF i, rfl, HLE5.out, s8, in_Z0 _, (fun v hv => by rw [HU.out] at hv; cases hv), (fun _ => ⟨rfl, rfl⟩)⟩
end
#print axioms do_sep
end Go.Proofs.YtlgogflhjpcmlaaDoor
