/-
  tree.Compare: a stack of pairs, till two parts differ.
-/
import Derived.Test.YtlgogflhjpcmlaaDoorTCmpW
namespace Go.Proofs.YtlgogflhjpcmlaaDoor
open Go.RowKit
set_option maxHeartbeats 40000000

def flatP (ps : List (T × T)) : List T := ps.flatMap fun p => [p.1, p.2]
theorem flatP_snoc (ps : List (T × T)) (p : T × T) : flatP (ps ++ [p]) = flatP ps ++ [p.1, p.2] := by simp [flatP]
theorem flatP_len (ps : List (T × T)) : (flatP ps).length = 2 * ps.length := by
  induction ps with
  | nil => rfl
  | cons p ps ih => simp only [flatP, List.flatMap_cons, List.length_append, List.length_cons, List.length_nil] at ih ⊢; omega
theorem TsIn.unsnoc {h : Nat → Option Obj} : ∀ {ts : List T} {x : T} {vss : List (List Value)}, TsIn h (ts ++ [x]) vss → ∃ vss' v, vss = vss' ++ [v] ∧ TsIn h ts vss' ∧ TIn h x v
  | [], x, vss, ⟨v, rest, e, q, r⟩ => by
    simp only [TsIn] at r
    subst r
    exact ⟨[], v, e, rfl, q⟩
  | t :: ts, x, vss, ⟨v, rest, e, q, r⟩ => by
    obtain ⟨vss', v', e', q', r'⟩ := TsIn.unsnoc (ts := ts) r
    exact ⟨v :: vss', v', by rw [e, e']; rfl, ⟨v, vss', rfl, q, q'⟩, r'⟩
theorem stk_pop {h : Nat → Option Obj} {x y : T} {st : List (T × T)} {vss : List (List Value)} (q : TsIn h (flatP ((x, y) :: st).reverse) vss) :
    ∃ vss' vx vy, vss.flatten = vss'.flatten ++ (vx ++ vy) ∧ TsIn h (flatP st.reverse) vss' ∧ TIn h x vx ∧ TIn h y vy := by
  rw [List.reverse_cons, flatP_snoc] at q
  rw [show flatP st.reverse ++ [(x, y).1, (x, y).2] = (flatP st.reverse ++ [x]) ++ [y] by simp] at q
  obtain ⟨v1, vy, e1, q1, r1⟩ := q.unsnoc
  obtain ⟨v2, vx, e2, q2, r2⟩ := q1.unsnoc
  exact ⟨v2, vx, vy, by rw [e1, e2]; simp, q2, r2, r1⟩
theorem stk_push {h : Nat → Option Obj} {x y : T} {st : List (T × T)} {vss : List (List Value)} {vx vy : List Value} (q : TsIn h (flatP st.reverse) vss) (hx : TIn h x vx) (hy : TIn h y vy) :
    TsIn h (flatP ((x, y) :: st).reverse) (vss ++ [vx] ++ [vy]) := by
  rw [List.reverse_cons, flatP_snoc]
  rw [show flatP st.reverse ++ [(x, y).1, (x, y).2] = (flatP st.reverse ++ [x]) ++ [y] by simp]
  exact (q.snoc hx).snoc hy
theorem stk_len {h : Nat → Option Obj} {st : List (T × T)} {vss : List (List Value)} (q : TsIn h (flatP st.reverse) vss) : vss.flatten.length = st.length * 12 := by
  rw [q.flat, flatP_len, List.length_reverse]
  omega
theorem wtP_len (st : List (T × T)) : 4 * st.length ≤ wtP st := by
  induction st with
  | nil => simp [wtP]
  | cons p st ih =>
    rw [wtP_cons, List.length_cons]
    have := wt_pos p.1
    have := wt_pos p.2
    omega
theorem elemP : Elem Tryd.prog 76 75 12 208 := Elem.mk' Tryd.underlying76 (z := .agg #[.int .i64 0, .int .i64 0, .string ByteArray.empty, .slice none 0 0, .slice none 0 0, .slice none 0 0, .int .i64 0, .int .i64 0, .string ByteArray.empty, .slice none 0 0, .slice none 0 0, .slice none 0 0]) (by kernel_rfl) rfl (by decide)

theorem one12 (k n : Int) (nm : ByteArray) (ia ra ba : Option Addr) (ni nr nb ic rc bc : Nat) (k' n' : Int) (nm' : ByteArray) (ia' ra' ba' : Option Addr) (ni' nr' nb' ic' rc' bc' : Nat) : ∀ v ∈ ([.int .i64 k, .int .i64 n, .string nm, .slice ia ni ic, .slice ra nr rc, .slice ba nb bc, .int .i64 k', .int .i64 n', .string nm', .slice ia' ni' ic', .slice ra' nr' rc', .slice ba' nb' bc'] : List Value), v.oneCell' = true := by
  intro v hv
  simp only [List.mem_cons, List.not_mem_nil, or_false] at hv
  rcases hv with rfl | rfl | rfl | rfl | rfl | rfl | rfl | rfl | rfl | rfl | rfl | rfl <;> rfl
section
variable {W w : World} {L : List HP} {h : Nat → Option Obj}
set_option maxRecDepth 100000 in
theorem compare_any (S : Sat W w (arch h :: L)) (t u : T) (vs us : List Value) (hin : TIn h t vs) (hiu : TIn h u us) (hot : TOk t) (hou : TOk u) (hw : wt t + wt u ≤ 1099511627776) :
    Calls Tryd.prog 27 #[.agg vs.toArray, .agg us.toArray] w fun e w' => e = .returned (.int .i64 (cmp t u)) ∧ Sat W w' (arch h :: L) := by
  obtain ⟨ia, ic, ra, rc, ba, bc, rfl, _⟩ := id hin.vals
  obtain ⟨ia', ic', ra', rc', ba', bc', rfl, _⟩ := id hiu.vals
  have s1 := (((S.alloc' (.cells (tVals t ia ic ra rc ba bc).toArray 35)).alloc' (.cells (tVals u ia' ic' ra' rc' ba' bc').toArray 35)).allocAt (k := w.heap.size + 2) (.cells ((tVals t ia ic ra rc ba bc) ++ (tVals u ia' ic' ra' rc' ba' bc')).toArray 75) (by simp))
  have S1 : Hid (Sat W _ (row 75 12 (some ⟨w.heap.size + 2, 0, none⟩) 1 1 ([tVals t ia ic ra rc ba bc, tVals u ia' ic' ra' rc' ba' bc'] : List (List Value)).flatten :: arch h :: L)) := hid (s1.rowMk (off := 0) (by simp [tVals]) (by omega) (by unfold maxLen; omega) (by simp [tVals]) (by simp [tVals]))
  have Q0 : Hid (TsIn h (flatP [(t, u)].reverse) [tVals t ia ic ra rc ba bc, tVals u ia' ic' ra' rc' ba' bc']) := hid ⟨_, _, rfl, hin, ⟨_, _, rfl, hiu, rfl⟩⟩
  have HOT := hid hot
  have HOU := hid hou
  have H0 : Hid (ans [(t, u)] = cmp t u) := hid (by
    rw [ans, ans]
    split
    · rename_i h; exact h.symm
    · rfl)
  obtain ⟨r, HR⟩ : ∃ r, Hid (cmp t u = r) := ⟨_, hid rfl⟩
  rw [HR.out] at H0
  rw [HR.out]
  obtain ⟨wm, HWM⟩ : ∃ wm, Hid (wt t + wt u = wm) := ⟨_, hid rfl⟩
  have hw0 : wtP [(t, u)] = wm := by rw [← HWM.out]; simp [wtP]
  have HW0 := hid hw0
  rw [HWM.out] at hw
  clear S hin hiu s1 hot hou hw0
  unfold tVals at S1 ⊢
  simp only [List.cons_append, List.nil_append] at S1
  go_enter Tryd.func27, Tryd.ntmps27
  go_wp2_with fail
  go_loopg [4, 5, 6, 7, 8, 9, 10] wm (fun left a4 a5 a6 a7 a8 a9 a10 wr => ∃ (st : List (T × T)) (a : Option Addr) (n c : Nat) (vss : List (List Value)), a5 = .slice a n c ∧ n = st.length ∧ Hid (wtP st = left) ∧ left ≤ wm ∧ Hid (ans st = r) ∧ Hid (∀ p ∈ st, TOk p.1 ∧ TOk p.2) ∧ Hid (TsIn h (flatP st.reverse) vss) ∧ Hid (Sat W wr (row 75 12 a n c vss.flatten :: arch h :: L)))
  case atStart => exact ⟨[(t, u)], _, 1, 1, _, rfl, rfl, HW0, Nat.le_refl _, H0, hid (by intro p hp; rw [List.mem_singleton] at hp; subst hp; exact ⟨HOT.out, HOU.out⟩), Q0, S1⟩
  case round =>
    obtain ⟨st, a, n, c, vss, rfl, hn, HWL, hleft, HA, HOK, HQ, S⟩ := hrel
    clear S1 Q0
    cases st with
    | nil =>
      simp only [List.length_nil] at hn
      subst hn
      have hr : r = 0 := by rw [← HA.out]; rfl
      subst hr
      go_wp2_with fail
      go_ret
      exact ⟨rfl, S.out.drop⟩
    | cons p st =>
      obtain ⟨x, y⟩ := p
      obtain ⟨m, HM⟩ : ∃ m, Hid (st.length = m) := ⟨_, hid rfl⟩
      simp only [List.length_cons] at hn
      rw [HM.out] at hn
      subst hn
      obtain ⟨vss', vx, vy, hfl, hq', hix, hiy⟩ := stk_pop HQ.out
      have hvl := stk_len hq'
      rw [HM.out] at hvl
      obtain ⟨xa, xc, xra, xrc, xba, xbc, rfl, _⟩ := id hix.vals
      obtain ⟨ya, yc, yra, yrc, yba, ybc, rfl, _⟩ := id hiy.vals
      rw [hfl] at S
      obtain ⟨g, off, rfl, hcell, _⟩ := S.out.rowCells (by omega)
      have hc2 : ∀ j v, ((tVals x xa xc xra xrc xba xbc) ++ (tVals y ya yc yra yrc yba ybc))[j]? = some v → wr.cell? ⟨g, off + m * 12 + j, none⟩ = some v := by
        intro j v hj
        have hjl := (List.getElem?_eq_some_iff.1 hj).1
        simp only [tVals, List.length_append, List.length_cons, List.length_nil] at hjl
        rw [Nat.add_assoc, hcell (m * 12 + j) (by omega), List.getElem?_append_right (by rw [hvl]; omega), hvl, show m * 12 + j - m * 12 = j by omega, hj]
      have c0 := hc2 0 _ rfl
      have c1 := hc2 1 _ rfl
      have c2 := hc2 2 _ rfl
      have c3 := hc2 3 _ rfl
      have c4 := hc2 4 _ rfl
      have c5 := hc2 5 _ rfl
      have c6 := hc2 6 _ rfl
      have c7 := hc2 7 _ rfl
      have c8 := hc2 8 _ rfl
      have c9 := hc2 9 _ rfl
      have c10 := hc2 10 _ rfl
      have c11 := hc2 11 _ rfl
      rw [Nat.add_zero] at c0
      rw [show off + m * 12 + 7 = off + m * 12 + 6 + 1 by omega] at c7
      rw [show off + m * 12 + 8 = off + m * 12 + 6 + 2 by omega] at c8
      rw [show off + m * 12 + 9 = off + m * 12 + 6 + 3 by omega] at c9
      rw [show off + m * 12 + 10 = off + m * 12 + 6 + 4 by omega] at c10
      rw [show off + m * 12 + 11 = off + m * 12 + 6 + 5 by omega] at c11
      have hglt : g < wr.heap.size := World.block_lt_of_cell? wr _ c0
      have s2 := S.out.rowTake m (by omega)
      rw [List.take_left' hvl] at s2
      have S2 := hid s2
      have HQ' := hid hq'
      have HIX := hid hix
      have HIY := hid hiy
      obtain ⟨hox, hoy⟩ := HOK.out (x, y) (by simp)
      have HOX := hid hox
      have HOY := hid hoy
      have HOS : Hid (∀ p ∈ st, TOk p.1 ∧ TOk p.2) := hid fun p hp => HOK.out p (by simp [hp])
      have hlen := wtP_len ((x, y) :: st)
      rw [HWL.out, List.length_cons, HM.out] at hlen
      have hcx : c ≤ 9223372036854775807 := by have := s2.rowLen.2.2; unfold maxLen at this; omega
      have hcm : m ≤ c := s2.rowLen.2.1
      have hwm : IntKind.i64.wrap (m : Int) = m := IntWalk.i64_in _ (by omega)
      clear hcell hc2 hfl hq' hvl hix hiy hox hoy s2 S HQ HOK
      have hmm : (m : Int) < (m : Int) + 1 := by omega
      unfold tVals at HIX HIY
      go_wp2_with fail
      go_cut [6, 7] from 18 to 31 (fun v6 v7 wc => ∃ px py, v6 = .pointer (some ⟨px, 0, none⟩) ∧ v7 = .pointer (some ⟨py, 0, none⟩) ∧ Hid (Sat W wc (blk px (.cells (tVals x xa xc xra xrc xba xbc).toArray 35 (0, 0)) :: blk py (.cells (tVals y ya yc yra yrc yba ybc).toArray 35 (0, 0)) :: row 75 12 (some ⟨g, off, none⟩) m c vss'.flatten :: arch h :: L)))
      case first =>
        go_region_law (fail)
        all_goals go_wp2_with fail
        all_goals go_meet
        all_goals first
          | exact ⟨_, _, rfl, rfl, hid ((((S2.out.allocAt (k := wr.heap.size) (.cells (tVals x xa xc xra xrc xba xbc).toArray 35) rfl).allocAt (k := wr.heap.size + 1) (.cells (tVals y ya yc yra yrc yba ybc).toArray 35) (by simp)).swap).drew)⟩
          | exact ⟨_, _, rfl, rfl, hid ((((S2.out.allocAt (k := wr.heap.size) (.cells (tVals y ya yc yra yrc yba ybc).toArray 35) rfl).allocAt (k := wr.heap.size + 1) (.cells (tVals x xa xc xra xrc xba xbc).toArray 35) (by simp))).drew)⟩
      case rest =>
        obtain ⟨px, py, rfl, rfl, S⟩ := hcut
        clear c0 c1 c2 c3 c4 c5 c6 c7 c8 c9 c10 c11 S2 hglt
        unfold tVals at S
        have hx := fun i => S.out.cell i
        have hy := fun i => S.out.swap.cell i
        have x0 := hx 0
        have x1 := hx 1
        have x2 := hx 2
        have x3 := hx 3
        have x4 := hx 4
        have x5 := hx 5
        have y0 := hy 0
        have y1 := hy 1
        have y2 := hy 2
        have y3 := hy 3
        have y4 := hy 4
        have y5 := hy 5
        simp only [List.getElem?_toArray, List.getElem?_cons_zero, List.getElem?_cons_succ] at x0 x1 x2 x3 x4 x5 y0 y1 y2 y3 y4 y5
        clear hx hy
        obtain ⟨nx, HNX⟩ : ∃ nx, Hid (x.is.length = nx) := ⟨_, hid rfl⟩
        obtain ⟨ny, HNY⟩ : ∃ ny, Hid (y.is.length = ny) := ⟨_, hid rfl⟩
        obtain ⟨k, HK⟩ : ∃ k, Hid (x.k = k) := ⟨_, hid rfl⟩
        obtain ⟨k2, HK2⟩ : ∃ k2, Hid (y.k = k2) := ⟨_, hid rfl⟩
        have hfx := HOX.out.fit
        have hfy := HOY.out.fit
        have bx : nx ≤ 1353245080300 := by rw [← HNX.out]; exact hfx.is
        have by' : ny ≤ 1353245080300 := by rw [← HNY.out]; exact hfy.is
        obtain ⟨_, _, _, _, _, _, ex, hlx, _⟩ := HIX.out.vals
        obtain ⟨_, _, _, _, _, _, ey, hly, _⟩ := HIY.out.vals
        simp only [tVals, List.cons.injEq, Value.slice.injEq, and_true, true_and] at ex ey
        obtain ⟨⟨rfl, rfl⟩, ⟨rfl, rfl⟩, rfl, rfl⟩ := ex
        obtain ⟨⟨rfl, rfl⟩, ⟨rfl, rfl⟩, rfl, rfl⟩ := ey
        have HLX := hid hlx
        have HLY := hid hly
        obtain ⟨xn, HXN⟩ : ∃ v, Hid (x.n = v) := ⟨_, hid rfl⟩
        obtain ⟨xm, HXM⟩ : ∃ v, Hid (x.nm = v) := ⟨_, hid rfl⟩
        obtain ⟨xrl, HXR⟩ : ∃ v, Hid (x.rs.length = v) := ⟨_, hid rfl⟩
        obtain ⟨xbl, HXB⟩ : ∃ v, Hid (x.bs.length = v) := ⟨_, hid rfl⟩
        obtain ⟨yn, HYN⟩ : ∃ v, Hid (y.n = v) := ⟨_, hid rfl⟩
        obtain ⟨ym, HYM⟩ : ∃ v, Hid (y.nm = v) := ⟨_, hid rfl⟩
        obtain ⟨yrl, HYR⟩ : ∃ v, Hid (y.rs.length = v) := ⟨_, hid rfl⟩
        obtain ⟨ybl, HYB⟩ : ∃ v, Hid (y.bs.length = v) := ⟨_, hid rfl⟩
        rw [HNX.out, HNY.out, HK.out, HK2.out, HXN.out, HXM.out, HXR.out, HXB.out, HYN.out, HYM.out, HYR.out, HYB.out] at S
        rw [HNX.out, HK.out, HXN.out, HXM.out, HXR.out, HXB.out] at HIX
        rw [HNY.out, HK2.out, HYN.out, HYM.out, HYR.out, HYB.out] at HIY
        rw [HNX.out] at x3
        rw [HNY.out] at y3
        rw [HK.out] at x0
        rw [HK2.out] at y0
        rw [HXN.out] at x1
        rw [HXM.out] at x2
        rw [HXR.out] at x4
        rw [HXB.out] at x5
        rw [HYN.out] at y1
        rw [HYM.out] at y2
        rw [HYR.out] at y4
        rw [HYB.out] at y5
        clear hfx hfy hlx hly
        by_cases hk : k = k2
        · subst hk
          have hk0 := fun wx => order_any k k wx
          rw [ordB_zero.2 rfl] at hk0
          have hwst : wt x + wt y + wtP st = gk := by rw [← HWL.out, wtP_cons]
          go_wp2_with fail
          refine (hk0 _).mono ?_
          rintro e w2 ⟨rfl, rfl⟩
          clear hk0
          by_cases h5 : k = 5
          · subst h5
            by_cases hl : nx = ny
            · subst hl
              have hz : (List.zip x.is y.is).length = nx := by rw [List.length_zip, HNX.out, HNY.out]; omega
              have HZ := hid hz
              have hko := fun wx => order_any (nx : Int) nx wx
              rw [ordB_zero.2 rfl] at hko
              have SS := hid S.out.rot3
              have HOB := HOS
              clear hz S
              go_wp2_with fail
              refine (hko _).mono ?_
              rintro e w2 ⟨rfl, rfl⟩
              clear hko
              have hmin : min (nx : Int) (nx : Int) = nx := by omega
              go_wp2_with fail
              clear x0 x1 x2 x3 x4 x5 y0 y1 y2 y3 y4 y5
              go_loopw [5, 10] (fun a5 iv wr => ∃ (j : Nat) (a : Option Addr) (n' c' : Nat) (vs2 : List (List Value)), j ≤ nx ∧ iv = .int .i64 ((j : Int) - 1) ∧ a5 = .slice a n' c' ∧ n' + j = (st).length + nx ∧ Hid (TsIn h (flatP ((List.zip x.is y.is).drop j ++ st).reverse) vs2) ∧ Hid (Sat W wr (row 75 12 a n' c' vs2.flatten :: blk px (.cells #[.int .i64 5, .int .i64 xn, .string xm, .slice xa nx xc, .slice xra xrl xrc, .slice xba xbl xbc] 35 (0, 0)) :: blk py (.cells #[.int .i64 5, .int .i64 yn, .string ym, .slice ya nx yc, .slice yra yrl yrc, .slice yba ybl ybc] 35 (0, 0)) :: arch h :: L))) (fun _ iv _ => (intOf iv + 1).toNat)
              case atStart => exact ⟨nx, _, m, c, vss', Nat.le_refl _, by go_num, rfl, by rw [HM.out], hid (by rw [List.drop_of_length_le (by rw [HZ.out]; exact Nat.le_refl _)]; exact HQ'.out), hid SS.out⟩
              case round =>
                obtain ⟨j, a, n', c', vs2, hj, rfl, rfl, hn', HQ2, S5⟩ := hrel
                clear SS
                by_cases h0 : j = 0
                · subst h0
                  have hq := HQ2.out
                  rw [List.drop_zero] at hq
                  have HQ3 := hid hq
                  rw [show ((0 : Nat) : Int) - 1 = -1 from rfl]
                  have hz := HZ.out
                  clear hq
                  go_wp2_with fail
                  go_roundg (wtP (List.zip x.is y.is ++ (st)))
                  all_goals first
                    | (have := (show wtP (List.zip x.is y.is ++ st) < gk by rw [wtP_append]; have := wt_tup x y; omega); omega)
                    | exact ⟨List.zip x.is y.is ++ (st), a, n', c', vs2, rfl, by rw [List.length_append, hz]; omega, hid rfl, by have := (show wtP (List.zip x.is y.is ++ st) < gk by rw [wtP_append]; have := wt_tup x y; omega); omega, hid (by rw [← ans_tup HK.out HK2.out (by rw [HNX.out, HNY.out])]; exact HA.out), hid (by
                        intro p hp
                        rcases List.mem_append.1 hp with hp | hp
                        · have h1 := List.of_mem_zip (a := p.1) (b := p.2) hp
                          exact ⟨HOX.out.fit.si _ h1.1, HOY.out.fit.si _ h1.2⟩
                        · exact HOB.out p hp), HQ3, hid S5.out.rot3.rot3.drop.drop⟩
                · obtain ⟨i, rfl⟩ : ∃ i, j = i + 1 := ⟨j - 1, by omega⟩
                  rw [show ((i + 1 : Nat) : Int) - 1 = (i : Int) by omega]
                  obtain ⟨x', hx'⟩ : ∃ x', x.is[i]? = some x' := ⟨_, List.getElem?_eq_getElem (by have := HNX.out; omega)⟩
                  obtain ⟨y', hy'⟩ : ∃ y', y.is[i]? = some y' := ⟨_, List.getElem?_eq_getElem (by have := HNY.out; omega)⟩
                  obtain ⟨gx, ox, xs, rfl, hcx', hinx⟩ := HLX.out.get hx'
                  obtain ⟨gy, oy, ys, rfl, hcy', hiny⟩ := HLY.out.get hy'
                  have hzi : (List.zip x.is y.is).drop i = (x', y') :: (List.zip x.is y.is).drop (i + 1) := by
                    have : (List.zip x.is y.is)[i]? = some (x', y') := by rw [List.getElem?_zip_eq_some]; exact ⟨hx', hy'⟩
                    obtain ⟨hl, he⟩ := List.getElem?_eq_some_iff.1 this
                    rw [← he]
                    exact List.drop_eq_getElem_cons hl
                  obtain ⟨ia1, ic1, ra1, rc1, ba1, bc1, rfl, _⟩ := id hinx.vals
                  obtain ⟨ia2, ic2, ra2, rc2, ba2, bc2, rfl, _⟩ := id hiny.vals
                  have HPU := hid (stk_push HQ2.out hinx hiny)
                  have HZI := hid hzi
                  have sA := S5.out.rot4
                  have k0 := sA.cellIn (hcx' 0 _ rfl)
                  have k1 := sA.cellIn (hcx' 1 _ rfl)
                  have k2 := sA.cellIn (hcx' 2 _ rfl)
                  have k3 := sA.cellIn (hcx' 3 _ rfl)
                  have k4 := sA.cellIn (hcx' 4 _ rfl)
                  have k5 := sA.cellIn (hcx' 5 _ rfl)
                  have l0 := sA.cellIn (hcy' 0 _ rfl)
                  have l1 := sA.cellIn (hcy' 1 _ rfl)
                  have l2 := sA.cellIn (hcy' 2 _ rfl)
                  have l3 := sA.cellIn (hcy' 3 _ rfl)
                  have l4 := sA.cellIn (hcy' 4 _ rfl)
                  have l5 := sA.cellIn (hcy' 5 _ rfl)
                  rw [Nat.zero_add] at k0 k1 k2 k3 k4 k5 l0 l1 l2 l3 l4 l5
                  rw [Nat.add_zero] at k0 l0
                  have x3 : wr.cell? ⟨px, 3, none⟩ = some (.slice (some ⟨gx, ox, none⟩) nx xc) := S5.out.swap.cell 3
                  have y3 : wr.cell? ⟨py, 3, none⟩ = some (.slice (some ⟨gy, oy, none⟩) nx yc) := S5.out.rot3.cell 3
                  have hi1 : (i : Int) < nx := by omega
                  have hi2 : (i : Int) < nx := by omega
                  have hnb : n' + 1 ≤ 274877906944 := by
                    have h1 := wtP_len (List.zip x.is y.is ++ (st))
                    rw [List.length_append, HZ.out] at h1
                    have h2 := (show wtP (List.zip x.is y.is ++ st) < gk by rw [wtP_append]; have := wt_tup x y; omega)
                    omega
                  clear sA hcx' hcy' hinx hiny hx' hy' hzi
                  unfold tVals at HPU
                  go_wp2_with fail
                  go_region_law (refine step_pushN rfl _ _ rfl elemP rfl S5.out.drew [.int .i64 x'.k, .int .i64 x'.n, .string x'.nm, .slice ia1 x'.is.length ic1, .slice ra1 x'.rs.length rc1, .slice ba1 x'.bs.length bc1, .int .i64 y'.k, .int .i64 y'.n, .string y'.nm, .slice ia2 y'.is.length ic2, .slice ra2 y'.rs.length rc2, .slice ba2 y'.bs.length bc2] rfl rfl rfl (one12 _ _ _ _ _ _ _ _ _ _ _ _ _ _ _ _ _ _ _ _ _ _ _ _) (by unfold maxLen; omega) (by omega) ?_; intro a3 c3 w3 s4 ha' hz3; have S6 := hid s4; clear s4)
                  all_goals clear k0 k1 k2 k3 k4 k5 l0 l1 l2 l3 l4 l5 x3 y3
                  all_goals go_wp2_with fail
                  all_goals go_roundw
                  all_goals first
                    | exact ⟨i, a3, n' + 1, c3, _, by omega, by go_num, rfl, by omega, hid (by rw [HZI.out]; exact HPU.out), hid (by have := S6.out; simpa using this)⟩
                    | (simp [intOf]; omega)
                    | (simp [intOf]; done)
            · have hor := fun wx => order_any (nx : Int) ny wx
              have hne : ordB (nx : Int) ny ≠ 0 := fun q => hl (by have := ordB_zero.1 q; omega)
              have hr : r = ordB (nx : Int) ny := by
                rw [← HA.out, ans]
                have hc : cmp x y = ordB (nx : Int) ny := by rw [cmp_len HK.out HK2.out (by rw [HNX.out, HNY.out]; exact hl), HNX.out, HNY.out]
                simp only [hc]
                rw [if_neg hne]
              have hb : (ordB (nx : Int) ny == 0) = false := by simpa using hne
              have hb2 : (ordB (nx : Int) ny != 0) = true := by simpa using hne
              clear hne
              go_wp2_with fail
              refine (hor _).mono ?_
              rintro e w2 ⟨rfl, rfl⟩
              go_wp2_with fail
              go_ret
              exact ⟨by rw [hr]; rfl, S.out.drop.drop.drop⟩
          · by_cases h7 : k = 7
            · subst h7
              obtain ⟨nn, hnn⟩ : ∃ nn, nn = min nx ny := ⟨_, rfl⟩
              have hmin : min (nx : Int) (ny : Int) = nn := by omega
              have hz : (List.zip x.is y.is).length = nn := by rw [List.length_zip, HNX.out, HNY.out, hnn]
              have HZ := hid hz
              have SS := hid S.out.rot4
              have hnx : nn ≤ x.is.length := by rw [HNX.out]; omega
              have hny : nn ≤ y.is.length := by rw [HNY.out]; omega
              have HNN := hid hnn
              have HNX2 := hid hnx
              have HNY2 := hid hny
              have HOB : Hid (∀ p ∈ ((leftT x nn, leftT y nn) :: st), TOk p.1 ∧ TOk p.2) := hid (by
                intro p hp
                rcases List.mem_cons.1 hp with rfl | hp
                · exact ⟨left_ok nn HOX.out, left_ok nn HOY.out⟩
                · exact HOS.out p hp)
              have HLA : Hid (∀ wx, Sat W wx (arch h :: blk px (.cells #[.int .i64 7, .int .i64 xn, .string xm, .slice xa nx xc, .slice xra xrl xrc, .slice xba xbl xbc] 35 (0, 0)) :: blk py (.cells #[.int .i64 7, .int .i64 yn, .string ym, .slice ya ny yc, .slice yra yrl yrc, .slice yba ybl ybc] 35 (0, 0)) :: row 75 12 (some ⟨g, off, none⟩) m c vss'.flatten :: L) → _) := hid fun wx s => left_any s x _ nn HIX.out HOX.out HNX2.out
              have HLB : Hid (∀ wx, Sat W wx (arch h :: blk px (.cells #[.int .i64 7, .int .i64 xn, .string xm, .slice xa nx xc, .slice xra xrl xrc, .slice xba xbl xbc] 35 (0, 0)) :: blk py (.cells #[.int .i64 7, .int .i64 yn, .string ym, .slice ya ny yc, .slice yra yrl yrc, .slice yba ybl ybc] 35 (0, 0)) :: row 75 12 (some ⟨g, off, none⟩) m c vss'.flatten :: L) → _) := hid fun wx s => left_any s y _ nn HIY.out HOY.out HNY2.out
              obtain ⟨lx, HLXE⟩ : ∃ v, Hid (leftT x nn = v) := ⟨_, hid rfl⟩
              obtain ⟨ly, HLYE⟩ : ∃ v, Hid (leftT y nn = v) := ⟨_, hid rfl⟩
              rw [HLXE.out] at HLA
              rw [HLYE.out] at HLB
              rw [HLXE.out, HLYE.out] at HOB
              clear hz S hnn hnx hny h5 hmin
              go_upto_region 13 with fail
              go_cut [9] from 64 to 70 (fun v wd => v = .int .i64 nn ∧ wc = wd)
              case first =>
                go_wp2_with fail
                all_goals go_meet
                all_goals refine ⟨congrArg _ ?_, rfl⟩
                all_goals have := HNN.out
                all_goals omega
              case rest =>
                obtain ⟨rfl, rfl⟩ := hcut
                have hnnx : nn ≤ nx := by have := HNN.out; omega
                have hnny : nn ≤ ny := by have := HNN.out; omega
                have hnn1 : nn ≤ 1353245080300 := by omega
                go_upto_region 15 with fail
                have SD := hid SS.out.drew
                clear SS
                have SS := SD
                clear SD
                go_cut [5] from 74 to 83 (fun v wd => ∃ (a3 : Option Addr) (c3 : Nat) (vss2 : List (List Value)), v = .slice a3 (m + 1) c3 ∧ Hid (TsIn h (flatP ((lx, ly) :: st).reverse) vss2) ∧ Hid (Sat W wd (row 75 12 a3 (m + 1) c3 vss2.flatten :: blk px (.cells #[.int .i64 7, .int .i64 xn, .string xm, .slice xa nx xc, .slice xra xrl xrc, .slice xba xbl xbc] 35 (0, 0)) :: blk py (.cells #[.int .i64 7, .int .i64 yn, .string ym, .slice ya ny yc, .slice yra yrl yrc, .slice yba ybl ybc] 35 (0, 0)) :: arch h :: L)))
                case first =>
                  go_region_law (first
                    | (go_simp
                       go_at_call 37
                       with_reducible refine (HLA.out _ SS.out).mono ?_
                       rintro e w2 ⟨vs1, rfl, q1, s1⟩
                       obtain ⟨pa, pc, pra, prc, pba, pbc, rfl, _⟩ := id q1.vals
                       have Q1 := hid q1
                       clear SS x0 x1 x2 x3 x4 x5 y0 y1 y2 y3 y4 y5
                       have SS := hid s1
                       have hx := fun i => (SS.out.swap).cell i
                       have hy := fun i => (SS.out.rot3).cell i
                       have x0 := hx 0
                       have x1 := hx 1
                       have x2 := hx 2
                       have x3 := hx 3
                       have x4 := hx 4
                       have x5 := hx 5
                       have y0 := hy 0
                       have y1 := hy 1
                       have y2 := hy 2
                       have y3 := hy 3
                       have y4 := hy 4
                       have y5 := hy 5
                       simp only [List.getElem?_toArray, List.getElem?_cons_zero, List.getElem?_cons_succ] at x0 x1 x2 x3 x4 x5 y0 y1 y2 y3 y4 y5
                       clear hx hy
                       unfold tVals at Q1 ⊢
                       clear s1 q1)
                    | (go_simp
                       go_at_call 37
                       with_reducible refine (HLB.out _ SS.out).mono ?_
                       rintro e w2 ⟨vs1, rfl, q1, s1⟩
                       obtain ⟨qa, qc, qra, qrc, qba, qbc, rfl, _⟩ := id q1.vals
                       have Q2 := hid q1
                       clear SS x0 x1 x2 x3 x4 x5 y0 y1 y2 y3 y4 y5
                       have SS := hid s1
                       have hx := fun i => (SS.out.swap).cell i
                       have hy := fun i => (SS.out.rot3).cell i
                       have x0 := hx 0
                       have x1 := hx 1
                       have x2 := hx 2
                       have x3 := hx 3
                       have x4 := hx 4
                       have x5 := hx 5
                       have y0 := hy 0
                       have y1 := hy 1
                       have y2 := hy 2
                       have y3 := hy 3
                       have y4 := hy 4
                       have y5 := hy 5
                       simp only [List.getElem?_toArray, List.getElem?_cons_zero, List.getElem?_cons_succ] at x0 x1 x2 x3 x4 x5 y0 y1 y2 y3 y4 y5
                       clear hx hy
                       unfold tVals at Q2 ⊢
                       clear s1 q1)
                    | (refine step_pushN rfl _ _ rfl elemP rfl SS.out.rot4 [.int .i64 lx.k, .int .i64 lx.n, .string lx.nm, .slice pa lx.is.length pc, .slice pra lx.rs.length prc, .slice pba lx.bs.length pbc, .int .i64 ly.k, .int .i64 ly.n, .string ly.nm, .slice qa ly.is.length qc, .slice qra ly.rs.length qrc, .slice qba ly.bs.length qbc] rfl rfl rfl (one12 _ _ _ _ _ _ _ _ _ _ _ _ _ _ _ _ _ _ _ _ _ _ _ _) (by unfold maxLen; omega) (by omega) ?_; intro a3 c3 w3 s4 ha' hz3; have S6 := hid s4.swap.unrot4; clear s4))
                  all_goals clear x0 x1 x2 x3 x4 x5 y0 y1 y2 y3 y4 y5 HLA HLB
                  all_goals have HPS := hid (stk_push HQ'.out Q1.out Q2.out)
                  all_goals clear SS Q1 Q2
                  all_goals go_wp2_with fail
                  all_goals go_meet
                  all_goals exact ⟨_, _, _, rfl, HPS, hid (by have := S6.out; simpa using this)⟩
                case rest =>
                  obtain ⟨a3, c3, vss2, rfl, HPS, SS⟩ := hcut
                  clear x0 x1 x2 x3 x4 x5 y0 y1 y2 y3 y4 y5 HLA HLB
                  go_wp2_with fail
                  go_loopw [5, 10] (fun a5 iv wr => ∃ (j : Nat) (a : Option Addr) (n' c' : Nat) (vs3 : List (List Value)), j ≤ nn ∧ iv = .int .i64 ((j : Int) - 1) ∧ a5 = .slice a n' c' ∧ n' + j = ((lx, ly) :: st).length + nn ∧ Hid (TsIn h (flatP ((List.zip x.is y.is).drop j ++ (lx, ly) :: st).reverse) vs3) ∧ Hid (Sat W wr (row 75 12 a n' c' vs3.flatten :: blk px (.cells #[.int .i64 7, .int .i64 xn, .string xm, .slice xa nx xc, .slice xra xrl xrc, .slice xba xbl xbc] 35 (0, 0)) :: blk py (.cells #[.int .i64 7, .int .i64 yn, .string ym, .slice ya ny yc, .slice yra yrl yrc, .slice yba ybl ybc] 35 (0, 0)) :: arch h :: L))) (fun _ iv _ => (intOf iv + 1).toNat)
                  case atStart => exact ⟨nn, a3, m + 1, c3, vss2, Nat.le_refl _, by go_num, rfl, by rw [List.length_cons, HM.out], hid (by rw [List.drop_of_length_le (by rw [HZ.out]; exact Nat.le_refl _)]; exact HPS.out), SS⟩
                  case round =>
                    obtain ⟨j, a, n', c', vs3, hj, rfl, rfl, hn', HQ2, S5⟩ := hrel
                    clear SS
                    by_cases h0 : j = 0
                    · subst h0
                      have hq := HQ2.out
                      rw [List.drop_zero] at hq
                      have HQ3 := hid hq
                      rw [show ((0 : Nat) : Int) - 1 = -1 from rfl]
                      have hz := HZ.out
                      clear hq
                      go_wp2_with fail
                      go_roundg (wtP (List.zip x.is y.is ++ ((lx, ly) :: st)))
                      all_goals first
                        | (have := (show wtP (List.zip x.is y.is ++ (lx, ly) :: st) < gk by rw [wtP_append, wtP_cons]; have h9 := wt_list HK.out HK2.out; rw [HNX.out, HNY.out, ← HNN.out, HLXE.out, HLYE.out] at h9; simp only; omega); omega)
                        | exact ⟨List.zip x.is y.is ++ ((lx, ly) :: st), a, n', c', vs3, rfl, by rw [List.length_append, hz]; omega, hid rfl, by have := (show wtP (List.zip x.is y.is ++ (lx, ly) :: st) < gk by rw [wtP_append, wtP_cons]; have h9 := wt_list HK.out HK2.out; rw [HNX.out, HNY.out, ← HNN.out, HLXE.out, HLYE.out] at h9; simp only; omega); omega, hid (by have h9 := ans_list (st := st) HK.out HK2.out; rw [HNX.out, HNY.out, ← HNN.out, HLXE.out, HLYE.out] at h9; rw [← h9]; exact HA.out), hid (by
                            intro p hp
                            rcases List.mem_append.1 hp with hp | hp
                            · have h1 := List.of_mem_zip (a := p.1) (b := p.2) hp
                              exact ⟨HOX.out.fit.si _ h1.1, HOY.out.fit.si _ h1.2⟩
                            · exact HOB.out p hp), HQ3, hid S5.out.rot3.rot3.drop.drop⟩
                    · obtain ⟨i, rfl⟩ : ∃ i, j = i + 1 := ⟨j - 1, by omega⟩
                      rw [show ((i + 1 : Nat) : Int) - 1 = (i : Int) by omega]
                      obtain ⟨x', hx'⟩ : ∃ x', x.is[i]? = some x' := ⟨_, List.getElem?_eq_getElem (by have := HNX.out; omega)⟩
                      obtain ⟨y', hy'⟩ : ∃ y', y.is[i]? = some y' := ⟨_, List.getElem?_eq_getElem (by have := HNY.out; omega)⟩
                      obtain ⟨gx, ox, xs, rfl, hcx', hinx⟩ := HLX.out.get hx'
                      obtain ⟨gy, oy, ys, rfl, hcy', hiny⟩ := HLY.out.get hy'
                      have hzi : (List.zip x.is y.is).drop i = (x', y') :: (List.zip x.is y.is).drop (i + 1) := by
                        have : (List.zip x.is y.is)[i]? = some (x', y') := by rw [List.getElem?_zip_eq_some]; exact ⟨hx', hy'⟩
                        obtain ⟨hl, he⟩ := List.getElem?_eq_some_iff.1 this
                        rw [← he]
                        exact List.drop_eq_getElem_cons hl
                      obtain ⟨ia1, ic1, ra1, rc1, ba1, bc1, rfl, _⟩ := id hinx.vals
                      obtain ⟨ia2, ic2, ra2, rc2, ba2, bc2, rfl, _⟩ := id hiny.vals
                      have HPU := hid (stk_push HQ2.out hinx hiny)
                      have HZI := hid hzi
                      have sA := S5.out.rot4
                      have k0 := sA.cellIn (hcx' 0 _ rfl)
                      have k1 := sA.cellIn (hcx' 1 _ rfl)
                      have k2 := sA.cellIn (hcx' 2 _ rfl)
                      have k3 := sA.cellIn (hcx' 3 _ rfl)
                      have k4 := sA.cellIn (hcx' 4 _ rfl)
                      have k5 := sA.cellIn (hcx' 5 _ rfl)
                      have l0 := sA.cellIn (hcy' 0 _ rfl)
                      have l1 := sA.cellIn (hcy' 1 _ rfl)
                      have l2 := sA.cellIn (hcy' 2 _ rfl)
                      have l3 := sA.cellIn (hcy' 3 _ rfl)
                      have l4 := sA.cellIn (hcy' 4 _ rfl)
                      have l5 := sA.cellIn (hcy' 5 _ rfl)
                      rw [Nat.zero_add] at k0 k1 k2 k3 k4 k5 l0 l1 l2 l3 l4 l5
                      rw [Nat.add_zero] at k0 l0
                      have x3 : wr.cell? ⟨px, 3, none⟩ = some (.slice (some ⟨gx, ox, none⟩) nx xc) := S5.out.swap.cell 3
                      have y3 : wr.cell? ⟨py, 3, none⟩ = some (.slice (some ⟨gy, oy, none⟩) ny yc) := S5.out.rot3.cell 3
                      have hi1 : (i : Int) < nx := by omega
                      have hi2 : (i : Int) < ny := by omega
                      have hnb : n' + 1 ≤ 274877906944 := by
                        have h1 := wtP_len (List.zip x.is y.is ++ ((lx, ly) :: st))
                        rw [List.length_append, HZ.out] at h1
                        have h2 := (show wtP (List.zip x.is y.is ++ (lx, ly) :: st) < gk by rw [wtP_append, wtP_cons]; have h9 := wt_list HK.out HK2.out; rw [HNX.out, HNY.out, ← HNN.out, HLXE.out, HLYE.out] at h9; simp only; omega)
                        omega
                      clear sA hcx' hcy' hinx hiny hx' hy' hzi
                      unfold tVals at HPU
                      go_wp2_with fail
                      go_region_law (refine step_pushN rfl _ _ rfl elemP rfl S5.out.drew [.int .i64 x'.k, .int .i64 x'.n, .string x'.nm, .slice ia1 x'.is.length ic1, .slice ra1 x'.rs.length rc1, .slice ba1 x'.bs.length bc1, .int .i64 y'.k, .int .i64 y'.n, .string y'.nm, .slice ia2 y'.is.length ic2, .slice ra2 y'.rs.length rc2, .slice ba2 y'.bs.length bc2] rfl rfl rfl (one12 _ _ _ _ _ _ _ _ _ _ _ _ _ _ _ _ _ _ _ _ _ _ _ _) (by unfold maxLen; omega) (by omega) ?_; intro a3 c3 w3 s4 ha' hz3; have S6 := hid s4; clear s4)
                      all_goals clear k0 k1 k2 k3 k4 k5 l0 l1 l2 l3 l4 l5 x3 y3
                      all_goals go_wp2_with fail
                      all_goals go_roundw
                      all_goals first
                        | exact ⟨i, a3, n' + 1, c3, _, by omega, by go_num, rfl, by omega, hid (by rw [HZI.out]; exact HPU.out), hid (by have := S6.out; simpa using this)⟩
                        | (simp [intOf]; omega)
                        | (simp [intOf]; done)
            · have hlf := leaf_any S.out.rot4 x y _ _ HIX.out HIY.out
              have hcl : cmp x y = leafB x y := cmp_leaf (HK.out.trans HK2.out.symm) (by rw [HK.out]; exact h5) (by rw [HK.out]; exact h7)
              have HLF := hid hlf
              have hr := HA.out
              rw [ans] at hr
              simp only [hcl] at hr
              clear hlf hcl
              go_wp2_with fail
              refine HLF.out.mono ?_
              rintro e w2 ⟨rfl, s2⟩
              have S2 := hid s2
              clear s2 HLF S x0 x1 x2 x3 x4 x5 y0 y1 y2 y3 y4 y5
              by_cases hz : leafB x y = 0
              · rw [if_pos hz] at hr
                have HRR := hid hr
                rw [hz]
                clear hr hz
                go_wp2_with fail
                go_roundg (wtP st)
                all_goals first
                  | (have := wt_pos x; omega)
                  | exact ⟨st, _, m, c, vss', rfl, HM.out.symm, hid rfl, by omega, HRR, HOS, HQ', hid (S2.out.rot4.rot3.drop.rot3.drop)⟩
              · rw [if_neg hz] at hr
                have hb : (leafB x y == 0) = false := by simpa using hz
                have hb2 : (leafB x y != 0) = true := by simpa using hz
                clear hz
                go_wp2_with fail
                go_ret
                exact ⟨by rw [← hr]; rfl, S2.out.rot4.drop.rot3.drop.swap.drop⟩
        · have hor := fun wx => order_any k k2 wx
          have hne : ordB k k2 ≠ 0 := fun q => hk (ordB_zero.1 q)
          have hr : r = ordB k k2 := by
            rw [← HA.out, ans]
            have hc : cmp x y = ordB k k2 := by rw [cmp_kind (by rw [HK.out, HK2.out]; exact hk), HK.out, HK2.out]
            simp only [hc]
            rw [if_neg hne]
          have hb : (ordB k k2 == 0) = false := by simpa using hne
          have hb2 : (ordB k k2 != 0) = true := by simpa using hne
          clear hne
          go_wp2_with fail
          refine (hor _).mono ?_
          rintro e w2 ⟨rfl, rfl⟩
          go_wp2_with fail
          go_ret
          exact ⟨by rw [hr]; rfl, S.out.drop.drop.drop⟩
end
#print axioms compare_any
end Go.Proofs.YtlgogflhjpcmlaaDoor
