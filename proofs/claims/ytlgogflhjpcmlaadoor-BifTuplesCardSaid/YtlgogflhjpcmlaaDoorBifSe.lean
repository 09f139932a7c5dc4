/-
  bif: setElement, of a number, a tuple and any term. (Written by wip/gen/gen_bifse.py.)
-/
import Derived.Test.YtlgogflhjpcmlaaDoorBifDs
import Derived.Test.YtlgogflhjpcmlaaDoorBifEl
namespace Go.Proofs.YtlgogflhjpcmlaaDoor
open Go.RowKit
set_option maxHeartbeats 8000000
set_option maxRecDepth 100000
/-- a tuple with another i-th item -/
def setT (j : Nat) (t u : T) : T := .mk t.k t.n t.nm (t.is.set j u) t.rs t.bs
def setO (i : Int) (t u : T) : Option T := if 1 ≤ i ∧ i ≤ t.is.length then some (setT (i - 1).toNat t u) else none
section
variable {W w : World} {L : List HP} {h : Nat → Option Obj} {cb : Nat}
theorem rowAt {e size n c g off : Nat} {xs : List Value} {v : Value} (s : Sat W w (row e size (some ⟨g, off, none⟩) n c xs :: L)) (i : Nat) (hi : i < n * size) (hv : xs[i]? = some v := by rfl) : w.cell? ⟨g, off + i, none⟩ = some v := by
  obtain ⟨g', off', he, hc, _⟩ := s.rowCells (by rcases Nat.eq_zero_or_pos n with q | q; subst q; omega; exact q)
  cases he
  rw [hc i hi, hv]
theorem top_open {t : T} {vs : List Value} (s : Sat W w (top t vs :: L)) : ∃ ia ic ra rc ba bc vss hn, vs = tVals t ia ic ra rc ba bc ∧ TopIn hn t ia ic ra rc ba bc vss ∧ Sat W w (row 35 6 ia t.is.length ic vss.flatten :: arch hn :: L) := by
  obtain ⟨g, ⟨h1, h2, ⟨ia, ic, ra, rc, ba, bc, vss, hn, e, q, x⟩, y, d, e'⟩, i⟩ := s.heap
  refine ⟨ia, ic, ra, rc, ba, bc, vss, hn, e, q, Sat.cut ⟨s.os, s.tape, s.output, s.size, g, ⟨h1, h2, x, y, d, e'⟩, i⟩⟩
theorem TsIn.set {h : Nat → Option Obj} : ∀ {ts : List T} {vss : List (List Value)} {j : Nat} {t : T} {vs : List Value}, TsIn h ts vss → TIn h t vs → TsIn h (ts.set j t) (vss.set j vs)
  | [], _, _, _, _, q, _ => by simp only [TsIn] at q; subst q; rfl
  | x :: ts, _, 0, t, vs, ⟨v, rest, e, q1, q2⟩, p => by subst e; exact ⟨vs, rest, rfl, p, q2⟩
  | x :: ts, _, j + 1, t, vs, ⟨v, rest, e, q1, q2⟩, p => by subst e; exact ⟨v, rest.set j vs, rfl, q1, TsIn.set q2 p⟩
theorem flat_set6 : ∀ {vss : List (List Value)} {j : Nat}, (∀ v ∈ vss, v.length = 6) → j < vss.length → ∀ v0 v1 v2 v3 v4 v5 : Value,
    ((((((vss.flatten).set (j * 6 + 0) v0).set (j * 6 + 1) v1).set (j * 6 + 2) v2).set (j * 6 + 3) v3).set (j * 6 + 4) v4).set (j * 6 + 5) v5 = (vss.set j [v0, v1, v2, v3, v4, v5]).flatten
  | [], j, _, hj, _, _, _, _, _, _ => by simp at hj
  | v :: rest, 0, h6, _, v0, v1, v2, v3, v4, v5 => by
    have h := h6 v (by simp)
    match v, h with
    | [a0, a1, a2, a3, a4, a5], _ => rfl
  | v :: rest, j + 1, h6, hj, v0, v1, v2, v3, v4, v5 => by
    have h := h6 v (by simp)
    have ih := flat_set6 (vss := rest) (j := j) (fun x hx => h6 x (by simp [hx])) (by simpa using hj) v0 v1 v2 v3 v4 v5
    have e : ∀ k, (j + 1) * 6 + k = v.length + (j * 6 + k) := fun k => by omega
    simp only [List.flatten_cons, List.set_cons_succ, e, List.set_append_right _ _ (Nat.le_add_right _ _), Nat.add_sub_cancel_left]
    rw [ih]
theorem rowFree6 {e n c g off k : Nat} {xs : List Value} (s : Sat W w (row e 6 (some ⟨g, off, none⟩) n c xs :: L)) :
    w.frozen? ⟨g, off + k, none⟩ = false ∧ w.frozen? ⟨g, off + k + 1, none⟩ = false ∧ w.frozen? ⟨g, off + k + 2, none⟩ = false ∧ w.frozen? ⟨g, off + k + 3, none⟩ = false ∧ w.frozen? ⟨g, off + k + 4, none⟩ = false ∧ w.frozen? ⟨g, off + k + 5, none⟩ = false := by
  rcases s.rowOpen with ⟨h, _⟩ | ⟨g', off', cur, h, s', _, _⟩
  · cases h
  · cases h; exact ⟨s'.free _, s'.free _, s'.free _, s'.free _, s'.free _, s'.free _⟩
theorem rowHas6 {e j n c g off : Nat} {xs : List Value} (hj : j < n) (s : Sat W w (row e 6 (some ⟨g, off, none⟩) n c xs :: L)) : ∃ z0 z1 z2 z3 z4 z5,
    w.cell? ⟨g, off + j * 6, none⟩ = some z0 ∧ w.cell? ⟨g, off + j * 6 + 1, none⟩ = some z1 ∧ w.cell? ⟨g, off + j * 6 + 2, none⟩ = some z2 ∧ w.cell? ⟨g, off + j * 6 + 3, none⟩ = some z3 ∧ w.cell? ⟨g, off + j * 6 + 4, none⟩ = some z4 ∧ w.cell? ⟨g, off + j * 6 + 5, none⟩ = some z5 := by
  obtain ⟨g', off', he, hc, _⟩ := s.rowCells (by omega)
  cases he
  have hl := s.rowLen.1
  have key : ∀ i, i < 6 → ∃ z, w.cell? ⟨g, off + j * 6 + i, none⟩ = some z := fun i hi => by
    rw [Nat.add_assoc, hc (j * 6 + i) (by omega), List.getElem?_eq_getElem (by omega)]
    exact ⟨_, rfl⟩
  obtain ⟨z0, h0⟩ := key 0 (by omega)
  obtain ⟨z1, h1⟩ := key 1 (by omega)
  obtain ⟨z2, h2⟩ := key 2 (by omega)
  obtain ⟨z3, h3⟩ := key 3 (by omega)
  obtain ⟨z4, h4⟩ := key 4 (by omega)
  obtain ⟨z5, h5⟩ := key 5 (by omega)
  exact ⟨z0, z1, z2, z3, z4, z5, h0, h1, h2, h3, h4, h5⟩
theorem Sat.rowSets6 {j n c g off : Nat} {vss : List (List Value)} (s : Sat W w (row 35 6 (some ⟨g, off, none⟩) n c vss.flatten :: L)) (h6 : ∀ v ∈ vss, v.length = 6) (hl : vss.length = n) (hj : j < n) (v0 v1 v2 v3 v4 v5 : Value) :
    Sat W ((((((w.setCell ⟨g, off + j * 6, none⟩ v0).setCell ⟨g, off + j * 6 + 1, none⟩ v1).setCell ⟨g, off + j * 6 + 2, none⟩ v2).setCell ⟨g, off + j * 6 + 3, none⟩ v3).setCell ⟨g, off + j * 6 + 4, none⟩ v4).setCell ⟨g, off + j * 6 + 5, none⟩ v5) (row 35 6 (some ⟨g, off, none⟩) n c (vss.set j [v0, v1, v2, v3, v4, v5]).flatten :: L) := by
  have h := (((((s.rowSet (j * 6 + 0) (by omega) v0).rowSet (j * 6 + 1) (by omega) v1).rowSet (j * 6 + 2) (by omega) v2).rowSet (j * 6 + 3) (by omega) v3).rowSet (j * 6 + 4) (by omega) v4).rowSet (j * 6 + 5) (by omega) v5
  rw [flat_set6 h6 (by omega)] at h
  exact h
theorem setElement_s {A : Option Addr} {ca : Nat} {vss : List (List Value)} (i : Int) (t u : T) (S : Sat W w (arch h :: row 35 6 A 3 ca vss.flatten :: blk cb (.cells #[.int .i64 16, .slice A 3 ca] 63 (0, 0)) :: tops [tN i, t, u] vss :: L)) (hok : TOk t) (hk : t.k = 5) :
    Calls Tryd.prog 47 #[.pointer (some ⟨cb, 0, none⟩)] w (MethS W L h (setO i t u)) := by
  match vss, S with
  | [], S => obtain ⟨_, ⟨_, _, _, ⟨_, _, _, ⟨_, _, _, ⟨_, _, q, _⟩, _⟩, _⟩, _⟩, _⟩ := S.heap; exact q.elim
  | [_], S => obtain ⟨_, ⟨_, _, _, ⟨_, _, _, ⟨_, _, _, ⟨_, _, ⟨_, _, _, q, _⟩, _⟩, _⟩, _⟩, _⟩, _⟩ := S.heap; exact q.elim
  | [_, _], S => obtain ⟨_, ⟨_, _, _, ⟨_, _, _, ⟨_, _, _, ⟨_, _, ⟨_, _, _, ⟨_, _, _, q, _⟩, _⟩, _⟩, _⟩, _⟩, _⟩, _⟩ := S.heap; exact q.elim
  | _ :: _ :: _ :: _ :: _, S => obtain ⟨_, ⟨_, _, _, ⟨_, _, _, ⟨_, _, _, ⟨_, _, ⟨_, _, _, ⟨_, _, _, ⟨_, _, _, q, _⟩, _⟩, _⟩, _⟩, _⟩, _⟩, _⟩, _⟩ := S.heap; exact q.elim
  | [vx, vt, vu], S =>
    have s1 : Sat W w (top (tN i) vx :: star (top t vt) (star (top u vu) emp) :: arch h :: row 35 6 A 3 ca [vx, vt, vu].flatten :: blk cb (.cells #[.int .i64 16, .slice A 3 ca] 63 (0, 0)) :: L) := (S.rot4).cut
    obtain ⟨ix, icx, rx, rcx, yx, ycx, _, _, rfl, _, s2⟩ := top_open s1
    obtain ⟨it, ict, rt, rct, yt, yct, ws, ht, rfl, qt, s3⟩ := top_open (s2.drop.drop.cut)
    obtain ⟨iu, icu, ru, rcu, yu, ycu, us, hu0, rfl, qu, s4⟩ := top_open (s3.rot3.cut)
    obtain ⟨hv, qv, _, s5⟩ := qu.whole s4
    have s6 := s5.swap.drop.rot6.rot6
    obtain ⟨n, HN⟩ : ∃ n, Hid (t.is.length = n) := ⟨_, hid rfl⟩
    have hn : n ≤ 1353245080300 := by rw [← HN.out]; exact hok.fit.is
    have e0 : [tVals (tN i) ix icx rx rcx yx ycx, tVals t it ict rt rct yt yct, tVals u iu icu ru rcu yu ycu].flatten = [.int .i64 1, .int .i64 i, .string ⟨#[]⟩, .slice ix 0 icx, .slice rx 0 rcx, .slice yx 0 ycx, .int .i64 5, .int .i64 t.n, .string t.nm, .slice it n ict, .slice rt t.rs.length rct, .slice yt t.bs.length yct, .int .i64 u.k, .int .i64 u.n, .string u.nm, .slice iu u.is.length icu, .slice ru u.rs.length rcu, .slice yu u.bs.length ycu] := by
      rw [← HN.out, ← hk]; rfl
    rw [e0] at s6
    rw [HN.out] at s6
    have SS := hid ((s6.allocAt (k := w.heap.size) (.cells #[.int .i64 0, .int .i64 0, .string ⟨#[]⟩, .slice none 0 0, .slice none 0 0, .slice none 0 0] 35) rfl).unrot3)
    obtain ⟨g, off, rfl, _, _⟩ := SS.out.rowCells (by omega : 0 < 3)
    have HQT := hid qt
    have HQV := hid qv
    have HK := hid hk
    clear S s1 s2 s3 s4 s5 s6 qt qu qv e0 hk hok
    have HPL : Hid (∀ (w' : World) (M : List HP), Sat W w' M → Calls Tryd.prog 68 #[.agg #[.int .i64 1, .int .i64 i, .string ⟨#[]⟩, .slice ix 0 icx, .slice rx 0 rcx, .slice yx 0 ycx], .int .i64 1, .int .i64 (n : Int)] w' fun e w2 => e = .returned (.tuple #[.int .i64 (placeO 1 i 1 n).1, .bool (placeO 1 i 1 n).2]) ∧ Sat W w2 M) := hid (fun w' M s => place_m s 1 i ⟨#[]⟩ _ _ _ 1 n (by decide) (by omega))
    obtain ⟨p, HPP⟩ : ∃ p, Hid (placeO 1 i 1 n = p) := ⟨_, hid rfl⟩
    obtain ⟨r, HR⟩ : ∃ r, Hid (setO i t u = r) := ⟨_, hid rfl⟩
    rw [HR.out]
    rw [HPP.out] at HPL
    have key : (p = (0, false) ∧ r = none) ∨ (p = (i - 1, true) ∧ 0 ≤ i - 1 ∧ i - 1 < n ∧ r = some (setT (i - 1).toNat t u)) := by
      rw [← HPP.out, ← HR.out]
      unfold placeO setO
      by_cases q : 1 ≤ i ∧ i ≤ n
      · exact .inr ⟨by rw [if_pos (by omega)], by omega, by omega, by rw [if_pos (by rw [HN.out]; exact q)]⟩
      · exact .inl ⟨by rw [if_neg (by omega)], by rw [if_neg (by rw [HN.out]; exact q)]⟩
    clear HR HPP
    rcases key with ⟨rfl, rfl⟩ | ⟨rfl, h0, h1, rfl⟩
    · have HF : Hid (∀ (w' : World) (M : List HP), Sat W w' (row 35 6 (some ⟨g, off, none⟩) 3 ca [.int .i64 1, .int .i64 i, .string ⟨#[]⟩, .slice ix 0 icx, .slice rx 0 rcx, .slice yx 0 ycx, .int .i64 5, .int .i64 t.n, .string t.nm, .slice it n ict, .slice rt t.rs.length rct, .slice yt t.bs.length yct, .int .i64 u.k, .int .i64 u.n, .string u.nm, .slice iu u.is.length icu, .slice ru u.rs.length rcu, .slice yu u.bs.length ycu] :: blk cb (.cells #[.int .i64 16, .slice (some ⟨g, off, none⟩) 3 ca] 63 (0, 0)) :: M) → World.cell? w' ⟨cb, 1, none⟩ = some (.slice (some ⟨g, off, none⟩) 3 ca) ∧ World.cell? w' ⟨g, off, none⟩ = some (.int .i64 1) ∧ World.cell? w' ⟨g, off + 1, none⟩ = some (.int .i64 i) ∧ World.cell? w' ⟨g, off + 2, none⟩ = some (.string ⟨#[]⟩) ∧ World.cell? w' ⟨g, off + 3, none⟩ = some (.slice ix 0 icx) ∧ World.cell? w' ⟨g, off + 4, none⟩ = some (.slice rx 0 rcx) ∧ World.cell? w' ⟨g, off + 5, none⟩ = some (.slice yx 0 ycx) ∧ World.cell? w' ⟨g, off + 6, none⟩ = some (.int .i64 5) ∧ World.cell? w' ⟨g, off + 6 + 1, none⟩ = some (.int .i64 t.n) ∧ World.cell? w' ⟨g, off + 6 + 2, none⟩ = some (.string t.nm) ∧ World.cell? w' ⟨g, off + 6 + 3, none⟩ = some (.slice it n ict) ∧ World.cell? w' ⟨g, off + 6 + 4, none⟩ = some (.slice rt t.rs.length rct) ∧ World.cell? w' ⟨g, off + 6 + 5, none⟩ = some (.slice yt t.bs.length yct) ∧ World.cell? w' ⟨g, off + 7, none⟩ = some (.int .i64 t.n) ∧ World.cell? w' ⟨g, off + 8, none⟩ = some (.string t.nm) ∧ World.cell? w' ⟨g, off + 9, none⟩ = some (.slice it n ict) ∧ World.cell? w' ⟨g, off + 10, none⟩ = some (.slice rt t.rs.length rct) ∧ World.cell? w' ⟨g, off + 11, none⟩ = some (.slice yt t.bs.length yct) ∧ World.cell? w' ⟨g, off + 12, none⟩ = some (.int .i64 u.k) ∧ World.cell? w' ⟨g, off + 12 + 1, none⟩ = some (.int .i64 u.n) ∧ World.cell? w' ⟨g, off + 12 + 2, none⟩ = some (.string u.nm) ∧ World.cell? w' ⟨g, off + 12 + 3, none⟩ = some (.slice iu u.is.length icu) ∧ World.cell? w' ⟨g, off + 12 + 4, none⟩ = some (.slice ru u.rs.length rcu) ∧ World.cell? w' ⟨g, off + 12 + 5, none⟩ = some (.slice yu u.bs.length ycu) ∧ World.cell? w' ⟨g, off + 13, none⟩ = some (.int .i64 u.n) ∧ World.cell? w' ⟨g, off + 14, none⟩ = some (.string u.nm) ∧ World.cell? w' ⟨g, off + 15, none⟩ = some (.slice iu u.is.length icu) ∧ World.cell? w' ⟨g, off + 16, none⟩ = some (.slice ru u.rs.length rcu) ∧ World.cell? w' ⟨g, off + 17, none⟩ = some (.slice yu u.bs.length ycu)) := hid (fun (w' : World) (M : List HP) (s : Sat W w' (row 35 6 (some ⟨g, off, none⟩) 3 ca [.int .i64 1, .int .i64 i, .string ⟨#[]⟩, .slice ix 0 icx, .slice rx 0 rcx, .slice yx 0 ycx, .int .i64 5, .int .i64 t.n, .string t.nm, .slice it n ict, .slice rt t.rs.length rct, .slice yt t.bs.length yct, .int .i64 u.k, .int .i64 u.n, .string u.nm, .slice iu u.is.length icu, .slice ru u.rs.length rcu, .slice yu u.bs.length ycu] :: blk cb (.cells #[.int .i64 16, .slice (some ⟨g, off, none⟩) 3 ca] 63 (0, 0)) :: M)) => ⟨(s.swap.cell 1).trans rfl, (rowAt s 0 (by omega)), (rowAt s 1 (by omega)), (rowAt s 2 (by omega)), (rowAt s 3 (by omega)), (rowAt s 4 (by omega)), (rowAt s 5 (by omega)), (rowAt s 6 (by omega)), (rowAt s 7 (by omega)), (rowAt s 8 (by omega)), (rowAt s 9 (by omega)), (rowAt s 10 (by omega)), (rowAt s 11 (by omega)), (rowAt s 7 (by omega)), (rowAt s 8 (by omega)), (rowAt s 9 (by omega)), (rowAt s 10 (by omega)), (rowAt s 11 (by omega)), (rowAt s 12 (by omega)), (rowAt s 13 (by omega)), (rowAt s 14 (by omega)), (rowAt s 15 (by omega)), (rowAt s 16 (by omega)), (rowAt s 17 (by omega)), (rowAt s 13 (by omega)), (rowAt s 14 (by omega)), (rowAt s 15 (by omega)), (rowAt s 16 (by omega)), (rowAt s 17 (by omega))⟩)
      go_enter Tryd.func47, Tryd.ntmps47
      go_upto_region 1 with fail
      replace SS := hid SS.out.drew
      go_region_held3 (fun w' => World.cell? w' ⟨cb, 1, none⟩ = some (.slice (some ⟨g, off, none⟩) 3 ca) ∧ World.cell? w' ⟨g, off, none⟩ = some (.int .i64 1) ∧ World.cell? w' ⟨g, off + 1, none⟩ = some (.int .i64 i) ∧ World.cell? w' ⟨g, off + 2, none⟩ = some (.string ⟨#[]⟩) ∧ World.cell? w' ⟨g, off + 3, none⟩ = some (.slice ix 0 icx) ∧ World.cell? w' ⟨g, off + 4, none⟩ = some (.slice rx 0 rcx) ∧ World.cell? w' ⟨g, off + 5, none⟩ = some (.slice yx 0 ycx) ∧ World.cell? w' ⟨g, off + 6, none⟩ = some (.int .i64 5) ∧ World.cell? w' ⟨g, off + 6 + 1, none⟩ = some (.int .i64 t.n) ∧ World.cell? w' ⟨g, off + 6 + 2, none⟩ = some (.string t.nm) ∧ World.cell? w' ⟨g, off + 6 + 3, none⟩ = some (.slice it n ict) ∧ World.cell? w' ⟨g, off + 6 + 4, none⟩ = some (.slice rt t.rs.length rct) ∧ World.cell? w' ⟨g, off + 6 + 5, none⟩ = some (.slice yt t.bs.length yct) ∧ World.cell? w' ⟨g, off + 7, none⟩ = some (.int .i64 t.n) ∧ World.cell? w' ⟨g, off + 8, none⟩ = some (.string t.nm) ∧ World.cell? w' ⟨g, off + 9, none⟩ = some (.slice it n ict) ∧ World.cell? w' ⟨g, off + 10, none⟩ = some (.slice rt t.rs.length rct) ∧ World.cell? w' ⟨g, off + 11, none⟩ = some (.slice yt t.bs.length yct) ∧ World.cell? w' ⟨g, off + 12, none⟩ = some (.int .i64 u.k) ∧ World.cell? w' ⟨g, off + 12 + 1, none⟩ = some (.int .i64 u.n) ∧ World.cell? w' ⟨g, off + 12 + 2, none⟩ = some (.string u.nm) ∧ World.cell? w' ⟨g, off + 12 + 3, none⟩ = some (.slice iu u.is.length icu) ∧ World.cell? w' ⟨g, off + 12 + 4, none⟩ = some (.slice ru u.rs.length rcu) ∧ World.cell? w' ⟨g, off + 12 + 5, none⟩ = some (.slice yu u.bs.length ycu) ∧ World.cell? w' ⟨g, off + 13, none⟩ = some (.int .i64 u.n) ∧ World.cell? w' ⟨g, off + 14, none⟩ = some (.string u.nm) ∧ World.cell? w' ⟨g, off + 15, none⟩ = some (.slice iu u.is.length icu) ∧ World.cell? w' ⟨g, off + 16, none⟩ = some (.slice ru u.rs.length rcu) ∧ World.cell? w' ⟨g, off + 17, none⟩ = some (.slice yu u.bs.length ycu)) (exact HF.out _ _ SS.out) (first
      | (go_at_call 68
         with_reducible refine (HPL.out _ _ SS.out).mono ?_
         rintro e wc ⟨rfl, s⟩
         replace SS := hid s
         clear s))
      have S3 := hid SS.out.rot3
      clear HF HPL SS
      have z0 : World.cell? wc ⟨w.heap.size, 0, none⟩ = some (.int .i64 0) := S3.out.cell 0
      have z1 : World.cell? wc ⟨w.heap.size, 1, none⟩ = some (.int .i64 0) := S3.out.cell 1
      have z2 : World.cell? wc ⟨w.heap.size, 2, none⟩ = some (.string ⟨#[]⟩) := S3.out.cell 2
      have z3 : World.cell? wc ⟨w.heap.size, 3, none⟩ = some (.slice none 0 0) := S3.out.cell 3
      have z4 : World.cell? wc ⟨w.heap.size, 4, none⟩ = some (.slice none 0 0) := S3.out.cell 4
      have z5 : World.cell? wc ⟨w.heap.size, 5, none⟩ = some (.slice none 0 0) := S3.out.cell 5
      have f0 := S3.out.free 0
      have f1 := S3.out.free 1
      have f2 := S3.out.free 2
      have f3 := S3.out.free 3
      have f4 := S3.out.free 4
      have f5 := S3.out.free 5
      go_wp2_with fail
      have s7 := ((((((S3.out.set 0 (.int .i64 0)).set 1 (.int .i64 0)).set 2 (.string ⟨#[]⟩)).set 3 (.slice none 0 0)).set 4 (.slice none 0 0)).set 5 (.slice none 0 0))
      refine bodyPost_ret (v := .tuple #[.agg #[.int .i64 0, .int .i64 0, .string ⟨#[]⟩, .slice none 0 0, .slice none 0 0, .slice none 0 0], .bool false]) (by simp [results, Tryd.results47, go_sem, z0, z1, z2, z3, z4, z5]) rfl ?_
      exact ⟨tZ0, _, h, (fun _ => none), false, rfl, Le.refl _, s7.drop.drop.drop.drop.drop.drop.archNil, in_Z0 _, (fun u hu => by cases hu), fun _ => rfl⟩
    · obtain ⟨j, rfl⟩ : ∃ j : Nat, i = (j : Int) + 1 := ⟨(i - 1).toNat, by omega⟩
      have ej : ((j : Int) + 1 - 1) = (j : Int) := by omega
      rw [ej] at h0 h1 HPL ⊢
      rw [Int.toNat_natCast]
      have hjn : j < n := by omega
      obtain ⟨g2, off2, rfl, _, hfr⟩ := SS.out.rot5.rowCells (by omega : 0 < n)
      have HF : Hid (∀ (w' : World) (M : List HP), Sat W w' (row 35 6 (some ⟨g, off, none⟩) 3 ca [.int .i64 1, .int .i64 ((j : Int) + 1), .string ⟨#[]⟩, .slice ix 0 icx, .slice rx 0 rcx, .slice yx 0 ycx, .int .i64 5, .int .i64 t.n, .string t.nm, .slice (some ⟨g2, off2, none⟩) n ict, .slice rt t.rs.length rct, .slice yt t.bs.length yct, .int .i64 u.k, .int .i64 u.n, .string u.nm, .slice iu u.is.length icu, .slice ru u.rs.length rcu, .slice yu u.bs.length ycu] :: blk cb (.cells #[.int .i64 16, .slice (some ⟨g, off, none⟩) 3 ca] 63 (0, 0)) :: M) → World.cell? w' ⟨cb, 1, none⟩ = some (.slice (some ⟨g, off, none⟩) 3 ca) ∧ World.cell? w' ⟨g, off, none⟩ = some (.int .i64 1) ∧ World.cell? w' ⟨g, off + 1, none⟩ = some (.int .i64 ((j : Int) + 1)) ∧ World.cell? w' ⟨g, off + 2, none⟩ = some (.string ⟨#[]⟩) ∧ World.cell? w' ⟨g, off + 3, none⟩ = some (.slice ix 0 icx) ∧ World.cell? w' ⟨g, off + 4, none⟩ = some (.slice rx 0 rcx) ∧ World.cell? w' ⟨g, off + 5, none⟩ = some (.slice yx 0 ycx) ∧ World.cell? w' ⟨g, off + 6, none⟩ = some (.int .i64 5) ∧ World.cell? w' ⟨g, off + 6 + 1, none⟩ = some (.int .i64 t.n) ∧ World.cell? w' ⟨g, off + 6 + 2, none⟩ = some (.string t.nm) ∧ World.cell? w' ⟨g, off + 6 + 3, none⟩ = some (.slice (some ⟨g2, off2, none⟩) n ict) ∧ World.cell? w' ⟨g, off + 6 + 4, none⟩ = some (.slice rt t.rs.length rct) ∧ World.cell? w' ⟨g, off + 6 + 5, none⟩ = some (.slice yt t.bs.length yct) ∧ World.cell? w' ⟨g, off + 7, none⟩ = some (.int .i64 t.n) ∧ World.cell? w' ⟨g, off + 8, none⟩ = some (.string t.nm) ∧ World.cell? w' ⟨g, off + 9, none⟩ = some (.slice (some ⟨g2, off2, none⟩) n ict) ∧ World.cell? w' ⟨g, off + 10, none⟩ = some (.slice rt t.rs.length rct) ∧ World.cell? w' ⟨g, off + 11, none⟩ = some (.slice yt t.bs.length yct) ∧ World.cell? w' ⟨g, off + 12, none⟩ = some (.int .i64 u.k) ∧ World.cell? w' ⟨g, off + 12 + 1, none⟩ = some (.int .i64 u.n) ∧ World.cell? w' ⟨g, off + 12 + 2, none⟩ = some (.string u.nm) ∧ World.cell? w' ⟨g, off + 12 + 3, none⟩ = some (.slice iu u.is.length icu) ∧ World.cell? w' ⟨g, off + 12 + 4, none⟩ = some (.slice ru u.rs.length rcu) ∧ World.cell? w' ⟨g, off + 12 + 5, none⟩ = some (.slice yu u.bs.length ycu) ∧ World.cell? w' ⟨g, off + 13, none⟩ = some (.int .i64 u.n) ∧ World.cell? w' ⟨g, off + 14, none⟩ = some (.string u.nm) ∧ World.cell? w' ⟨g, off + 15, none⟩ = some (.slice iu u.is.length icu) ∧ World.cell? w' ⟨g, off + 16, none⟩ = some (.slice ru u.rs.length rcu) ∧ World.cell? w' ⟨g, off + 17, none⟩ = some (.slice yu u.bs.length ycu)) := hid (fun (w' : World) (M : List HP) (s : Sat W w' (row 35 6 (some ⟨g, off, none⟩) 3 ca [.int .i64 1, .int .i64 ((j : Int) + 1), .string ⟨#[]⟩, .slice ix 0 icx, .slice rx 0 rcx, .slice yx 0 ycx, .int .i64 5, .int .i64 t.n, .string t.nm, .slice (some ⟨g2, off2, none⟩) n ict, .slice rt t.rs.length rct, .slice yt t.bs.length yct, .int .i64 u.k, .int .i64 u.n, .string u.nm, .slice iu u.is.length icu, .slice ru u.rs.length rcu, .slice yu u.bs.length ycu] :: blk cb (.cells #[.int .i64 16, .slice (some ⟨g, off, none⟩) 3 ca] 63 (0, 0)) :: M)) => ⟨(s.swap.cell 1).trans rfl, (rowAt s 0 (by omega)), (rowAt s 1 (by omega)), (rowAt s 2 (by omega)), (rowAt s 3 (by omega)), (rowAt s 4 (by omega)), (rowAt s 5 (by omega)), (rowAt s 6 (by omega)), (rowAt s 7 (by omega)), (rowAt s 8 (by omega)), (rowAt s 9 (by omega)), (rowAt s 10 (by omega)), (rowAt s 11 (by omega)), (rowAt s 7 (by omega)), (rowAt s 8 (by omega)), (rowAt s 9 (by omega)), (rowAt s 10 (by omega)), (rowAt s 11 (by omega)), (rowAt s 12 (by omega)), (rowAt s 13 (by omega)), (rowAt s 14 (by omega)), (rowAt s 15 (by omega)), (rowAt s 16 (by omega)), (rowAt s 17 (by omega)), (rowAt s 13 (by omega)), (rowAt s 14 (by omega)), (rowAt s 15 (by omega)), (rowAt s 16 (by omega)), (rowAt s 17 (by omega))⟩)
      clear hfr
      go_enter Tryd.func47, Tryd.ntmps47
      go_upto_region 1 with fail
      replace SS := hid SS.out.drew
      go_region_held3 (fun w' => World.cell? w' ⟨cb, 1, none⟩ = some (.slice (some ⟨g, off, none⟩) 3 ca) ∧ World.cell? w' ⟨g, off, none⟩ = some (.int .i64 1) ∧ World.cell? w' ⟨g, off + 1, none⟩ = some (.int .i64 ((j : Int) + 1)) ∧ World.cell? w' ⟨g, off + 2, none⟩ = some (.string ⟨#[]⟩) ∧ World.cell? w' ⟨g, off + 3, none⟩ = some (.slice ix 0 icx) ∧ World.cell? w' ⟨g, off + 4, none⟩ = some (.slice rx 0 rcx) ∧ World.cell? w' ⟨g, off + 5, none⟩ = some (.slice yx 0 ycx) ∧ World.cell? w' ⟨g, off + 6, none⟩ = some (.int .i64 5) ∧ World.cell? w' ⟨g, off + 6 + 1, none⟩ = some (.int .i64 t.n) ∧ World.cell? w' ⟨g, off + 6 + 2, none⟩ = some (.string t.nm) ∧ World.cell? w' ⟨g, off + 6 + 3, none⟩ = some (.slice (some ⟨g2, off2, none⟩) n ict) ∧ World.cell? w' ⟨g, off + 6 + 4, none⟩ = some (.slice rt t.rs.length rct) ∧ World.cell? w' ⟨g, off + 6 + 5, none⟩ = some (.slice yt t.bs.length yct) ∧ World.cell? w' ⟨g, off + 7, none⟩ = some (.int .i64 t.n) ∧ World.cell? w' ⟨g, off + 8, none⟩ = some (.string t.nm) ∧ World.cell? w' ⟨g, off + 9, none⟩ = some (.slice (some ⟨g2, off2, none⟩) n ict) ∧ World.cell? w' ⟨g, off + 10, none⟩ = some (.slice rt t.rs.length rct) ∧ World.cell? w' ⟨g, off + 11, none⟩ = some (.slice yt t.bs.length yct) ∧ World.cell? w' ⟨g, off + 12, none⟩ = some (.int .i64 u.k) ∧ World.cell? w' ⟨g, off + 12 + 1, none⟩ = some (.int .i64 u.n) ∧ World.cell? w' ⟨g, off + 12 + 2, none⟩ = some (.string u.nm) ∧ World.cell? w' ⟨g, off + 12 + 3, none⟩ = some (.slice iu u.is.length icu) ∧ World.cell? w' ⟨g, off + 12 + 4, none⟩ = some (.slice ru u.rs.length rcu) ∧ World.cell? w' ⟨g, off + 12 + 5, none⟩ = some (.slice yu u.bs.length ycu) ∧ World.cell? w' ⟨g, off + 13, none⟩ = some (.int .i64 u.n) ∧ World.cell? w' ⟨g, off + 14, none⟩ = some (.string u.nm) ∧ World.cell? w' ⟨g, off + 15, none⟩ = some (.slice iu u.is.length icu) ∧ World.cell? w' ⟨g, off + 16, none⟩ = some (.slice ru u.rs.length rcu) ∧ World.cell? w' ⟨g, off + 17, none⟩ = some (.slice yu u.bs.length ycu)) (exact HF.out _ _ SS.out) (first
      | (go_at_call 68
         with_reducible refine (HPL.out _ _ SS.out).mono ?_
         rintro e wc ⟨rfl, s⟩
         replace SS := hid s
         clear s))
      obtain ⟨y0, y1, y2, y3, y4, y5, y6, y7, y8, y9, y10, y11, y12, y13, y14, y15, y16, y17, y18, y19, y20, y21, y22, y23, y24, y25, y26, y27, y28⟩ := HF.out _ _ SS.out
      go_upto_region 4 with fail
      clear y0 y1 y2 y3 y4 y5 y6 y7 y8 y9 y10 y11 y12 y13 y14 y15 y16 y17 y18 y19 y20 y21 y22 y23 y24 y25 y26 y27 y28
      obtain ⟨fz0, fz1, fz2, fz3, fz4, fz5⟩ := rowFree6 (k := j * 6) SS.out.rot5
      obtain ⟨q0, q1, q2, q3, q4, q5, kz0, kz1, kz2, kz3, kz4, kz5⟩ := rowHas6 hjn SS.out.rot5
      have SX := SS
      replace SS := hid SS.out.drew
      have hSw := HF.out _ _ SS.out
      refine wp_region_noPanic ?_
      refine wp_region_L (S := fun w' => World.cell? w' ⟨cb, 1, none⟩ = some (.slice (some ⟨g, off, none⟩) 3 ca) ∧ World.cell? w' ⟨g, off, none⟩ = some (.int .i64 1) ∧ World.cell? w' ⟨g, off + 1, none⟩ = some (.int .i64 ((j : Int) + 1)) ∧ World.cell? w' ⟨g, off + 2, none⟩ = some (.string ⟨#[]⟩) ∧ World.cell? w' ⟨g, off + 3, none⟩ = some (.slice ix 0 icx) ∧ World.cell? w' ⟨g, off + 4, none⟩ = some (.slice rx 0 rcx) ∧ World.cell? w' ⟨g, off + 5, none⟩ = some (.slice yx 0 ycx) ∧ World.cell? w' ⟨g, off + 6, none⟩ = some (.int .i64 5) ∧ World.cell? w' ⟨g, off + 6 + 1, none⟩ = some (.int .i64 t.n) ∧ World.cell? w' ⟨g, off + 6 + 2, none⟩ = some (.string t.nm) ∧ World.cell? w' ⟨g, off + 6 + 3, none⟩ = some (.slice (some ⟨g2, off2, none⟩) n ict) ∧ World.cell? w' ⟨g, off + 6 + 4, none⟩ = some (.slice rt t.rs.length rct) ∧ World.cell? w' ⟨g, off + 6 + 5, none⟩ = some (.slice yt t.bs.length yct) ∧ World.cell? w' ⟨g, off + 7, none⟩ = some (.int .i64 t.n) ∧ World.cell? w' ⟨g, off + 8, none⟩ = some (.string t.nm) ∧ World.cell? w' ⟨g, off + 9, none⟩ = some (.slice (some ⟨g2, off2, none⟩) n ict) ∧ World.cell? w' ⟨g, off + 10, none⟩ = some (.slice rt t.rs.length rct) ∧ World.cell? w' ⟨g, off + 11, none⟩ = some (.slice yt t.bs.length yct) ∧ World.cell? w' ⟨g, off + 12, none⟩ = some (.int .i64 u.k) ∧ World.cell? w' ⟨g, off + 12 + 1, none⟩ = some (.int .i64 u.n) ∧ World.cell? w' ⟨g, off + 12 + 2, none⟩ = some (.string u.nm) ∧ World.cell? w' ⟨g, off + 12 + 3, none⟩ = some (.slice iu u.is.length icu) ∧ World.cell? w' ⟨g, off + 12 + 4, none⟩ = some (.slice ru u.rs.length rcu) ∧ World.cell? w' ⟨g, off + 12 + 5, none⟩ = some (.slice yu u.bs.length ycu) ∧ World.cell? w' ⟨g, off + 13, none⟩ = some (.int .i64 u.n) ∧ World.cell? w' ⟨g, off + 14, none⟩ = some (.string u.nm) ∧ World.cell? w' ⟨g, off + 15, none⟩ = some (.slice iu u.is.length icu) ∧ World.cell? w' ⟨g, off + 16, none⟩ = some (.slice ru u.rs.length rcu) ∧ World.cell? w' ⟨g, off + 17, none⟩ = some (.slice yu u.bs.length ycu)) 15 (by kernel_rfl) ?_
      refine wpAnyL_pure (i := 0) (d := 37) (v := ?_) rfl (by kernel_rfl) (by kernel_rfl) (by kernel_rfl) (by kernel_rfl) (by decide) (fun _ _ _ h => h) (Or.inl ⟨by rfl, ?_⟩) (fun _ => hSw) ?_
      rotate_left
      · intro w _; go_simp; all_goals with_reducible rfl
      try simp only [Act.put, List.setIfInBounds_toArray, List.set_cons_zero, List.set_cons_succ]
      refine wpAnyL_pure (i := 1) (d := 38) (v := ?_) rfl (by kernel_rfl) (by kernel_rfl) (by kernel_rfl) (by kernel_rfl) (by decide) (fun _ _ _ h => h) (Or.inl ⟨by rfl, ?_⟩) (fun _ => hSw) ?_
      rotate_left
      · intro w _; go_simp; all_goals with_reducible rfl
      try simp only [Act.put, List.setIfInBounds_toArray, List.set_cons_zero, List.set_cons_succ]
      refine wpAnyL_pure (i := 2) (d := 39) (v := ?_) rfl (by kernel_rfl) (by kernel_rfl) (by kernel_rfl) (by kernel_rfl) (by decide) (fun _ _ _ h => h) (Or.inl ⟨by rfl, ?_⟩) (fun _ => hSw) ?_
      rotate_left
      · intro w _; go_simp; all_goals with_reducible rfl
      try simp only [Act.put, List.setIfInBounds_toArray, List.set_cons_zero, List.set_cons_succ]
      refine wpAnyL_load (i := 3) (d := 40) (v := ?_) rfl (by kernel_rfl) (by kernel_rfl) (by kernel_rfl) (by kernel_rfl) (by decide) (by kernel_rfl) (by kernel_rfl) (fun _ _ _ h => h) (Or.inl ⟨by rfl, ?_⟩) hSw ?_
      rotate_left
      · intro w hSw; (try dsimp only at hSw); go_simp; all_goals with_reducible rfl
      try simp only [Act.put, List.setIfInBounds_toArray, List.set_cons_zero, List.set_cons_succ]
      refine wpAnyL_pure (i := 4) (d := 41) (v := ?_) rfl (by kernel_rfl) (by kernel_rfl) (by kernel_rfl) (by kernel_rfl) (by decide) (fun _ _ _ h => h) (Or.inl ⟨by rfl, ?_⟩) (fun _ => hSw) ?_
      rotate_left
      · intro w _; go_simp; all_goals with_reducible rfl
      try simp only [Act.put, List.setIfInBounds_toArray, List.set_cons_zero, List.set_cons_succ]
      refine wpAnyL_pure (i := 5) (d := 42) (v := ?_) rfl (by kernel_rfl) (by kernel_rfl) (by kernel_rfl) (by kernel_rfl) (by decide) (fun _ _ _ h => h) (Or.inl ⟨by rfl, ?_⟩) (fun _ => hSw) ?_
      rotate_left
      · intro w _; go_simp; all_goals with_reducible rfl
      try simp only [Act.put, List.setIfInBounds_toArray, List.set_cons_zero, List.set_cons_succ]
      refine wpAnyL_load (i := 6) (d := 43) (v := ?_) rfl (by kernel_rfl) (by kernel_rfl) (by kernel_rfl) (by kernel_rfl) (by decide) (by kernel_rfl) (by kernel_rfl) (fun _ _ _ h => h) (Or.inl ⟨by rfl, ?_⟩) hSw ?_
      rotate_left
      · intro w hSw; (try dsimp only at hSw); go_simp; all_goals with_reducible rfl
      try simp only [Act.put, List.setIfInBounds_toArray, List.set_cons_zero, List.set_cons_succ]
      refine wpAnyL_pure (i := 7) (d := 44) (v := ?_) rfl (by kernel_rfl) (by kernel_rfl) (by kernel_rfl) (by kernel_rfl) (by decide) (fun _ _ _ h => h) (Or.inl ⟨by rfl, ?_⟩) (fun _ => hSw) ?_
      rotate_left
      · intro w _; go_simp; all_goals with_reducible rfl
      try simp only [Act.put, List.setIfInBounds_toArray, List.set_cons_zero, List.set_cons_succ]
      refine wpAnyL_pure (i := 8) (d := 45) (v := ?_) rfl (by kernel_rfl) (by kernel_rfl) (by kernel_rfl) (by kernel_rfl) (by decide) (fun _ _ _ h => h) (Or.inl ⟨by rfl, ?_⟩) (fun _ => hSw) ?_
      rotate_left
      · intro w _; go_simp; all_goals with_reducible rfl
      try simp only [Act.put, List.setIfInBounds_toArray, List.set_cons_zero, List.set_cons_succ]
      refine wpAnyL_pure (i := 9) (d := 46) (v := ?_) rfl (by kernel_rfl) (by kernel_rfl) (by kernel_rfl) (by kernel_rfl) (by decide) (fun _ _ _ h => h) (Or.inl ⟨by rfl, ?_⟩) (fun _ => hSw) ?_
      rotate_left
      · intro w _; go_simp; all_goals with_reducible rfl
      try simp only [Act.put, List.setIfInBounds_toArray, List.set_cons_zero, List.set_cons_succ]
      refine wpAnyL_pure (i := 10) (d := 47) (v := ?_) rfl (by kernel_rfl) (by kernel_rfl) (by kernel_rfl) (by kernel_rfl) (by decide) (fun _ _ _ h => h) (Or.inl ⟨by rfl, ?_⟩) (fun _ => hSw) ?_
      rotate_left
      · intro w _; go_simp; all_goals with_reducible rfl
      try simp only [Act.put, List.setIfInBounds_toArray, List.set_cons_zero, List.set_cons_succ]
      refine wpAnyL_load (i := 11) (d := 48) (v := ?_) rfl (by kernel_rfl) (by kernel_rfl) (by kernel_rfl) (by kernel_rfl) (by decide) (by kernel_rfl) (by kernel_rfl) (fun _ _ _ h => h) (Or.inl ⟨by rfl, ?_⟩) hSw ?_
      rotate_left
      · intro w hSw; (try dsimp only at hSw); go_simp; all_goals with_reducible rfl
      try simp only [Act.put, List.setIfInBounds_toArray, List.set_cons_zero, List.set_cons_succ]
      refine wpAnyL_pure (i := 12) (d := 49) (v := ?_) rfl (by kernel_rfl) (by kernel_rfl) (by kernel_rfl) (by kernel_rfl) (by decide) (fun _ _ _ h => h) (Or.inl ⟨by rfl, ?_⟩) (fun _ => hSw) ?_
      rotate_left
      · intro w _; go_simp; all_goals with_reducible rfl
      try simp only [Act.put, List.setIfInBounds_toArray, List.set_cons_zero, List.set_cons_succ]
      refine wpAnyL_load (i := 13) (d := 50) (v := ?_) rfl (by kernel_rfl) (by kernel_rfl) (by kernel_rfl) (by kernel_rfl) (by decide) (by kernel_rfl) (by kernel_rfl) (fun _ _ _ h => h) (Or.inl ⟨by rfl, ?_⟩) hSw ?_
      rotate_left
      · intro w hSw; (try dsimp only at hSw); go_simp; all_goals with_reducible rfl
      try simp only [Act.put, List.setIfInBounds_toArray, List.set_cons_zero, List.set_cons_succ]
      refine wpAnyL_pure (i := 14) (d := 51) (v := ?_) rfl (by kernel_rfl) (by kernel_rfl) (by kernel_rfl) (by kernel_rfl) (by decide) (fun _ _ _ h => h) (Or.inl ⟨by rfl, ?_⟩) (fun _ => hSw) ?_
      rotate_left
      · intro w _; go_simp; all_goals with_reducible rfl
      try simp only [Act.put, List.setIfInBounds_toArray, List.set_cons_zero, List.set_cons_succ]
      obtain ⟨hw6, hwl⟩ := (HQT.out.i).all6
      rw [HN.out] at hwl
      refine wpAnyL_ready (rs := [15]) (by kernel_rfl) (by simp) ?_
      refine AllL.cons (o := _) rfl (fun K hK => ?_) AllL.nil
      go_simp
      replace SS := hid ((SX.out.rot5.rowSets6 hw6 hwl hjn (.int .i64 u.k) (.int .i64 u.n) (.string u.nm) (.slice iu u.is.length icu) (.slice ru u.rs.length rcu) (.slice yu u.bs.length ycu)).unrot5.drew)
      refine hK.out _ _ (fun hv => absurd hv (by decide +kernel)) ?_
      clear hK K
      try simp only [Act.put, List.setIfInBounds_toArray, List.set_cons_zero, List.set_cons_succ]
      clear fz0 fz1 fz2 fz3 fz4 fz5 kz0 kz1 kz2 kz3 kz4 kz5 hSw
      refine wpAnyL_done (by kernel_rfl) ?_ _
      refine NoPanic.normal ?_
      clear SX
      revert SS
      generalize World.drew _ = wz
      intro SS
      obtain ⟨y0, y1, y2, y3, y4, y5, y6, y7, y8, y9, y10, y11, y12, y13, y14, y15, y16, y17, y18, y19, y20, y21, y22, y23, y24, y25, y26, y27, y28⟩ := HF.out _ _ SS.out
      have S3 := hid SS.out.rot3
      clear y1 y2 y3 y4 y5 y6 y18 y19 y20 y21 y22 y23 y24 y25 y26 y27 y28 HF HPL
      have z0 : World.cell? wz ⟨w.heap.size, 0, none⟩ = some (.int .i64 0) := S3.out.cell 0
      have z1 : World.cell? wz ⟨w.heap.size, 1, none⟩ = some (.int .i64 0) := S3.out.cell 1
      have z2 : World.cell? wz ⟨w.heap.size, 2, none⟩ = some (.string ⟨#[]⟩) := S3.out.cell 2
      have z3 : World.cell? wz ⟨w.heap.size, 3, none⟩ = some (.slice none 0 0) := S3.out.cell 3
      have z4 : World.cell? wz ⟨w.heap.size, 4, none⟩ = some (.slice none 0 0) := S3.out.cell 4
      have z5 : World.cell? wz ⟨w.heap.size, 5, none⟩ = some (.slice none 0 0) := S3.out.cell 5
      have f0 := S3.out.free 0
      have f1 := S3.out.free 1
      have f2 := S3.out.free 2
      have f3 := S3.out.free 3
      have f4 := S3.out.free 4
      have f5 := S3.out.free 5
      go_wp2_with fail
      have s7 := ((((((S3.out.set 0 (.int .i64 5)).set 1 (.int .i64 t.n)).set 2 (.string t.nm)).set 3 (.slice (some ⟨g2, off2, none⟩) n ict)).set 4 (.slice rt t.rs.length rct)).set 5 (.slice yt t.bs.length yct))
      refine bodyPost_ret (v := .tuple #[.agg #[.int .i64 5, .int .i64 t.n, .string t.nm, .slice (some ⟨g2, off2, none⟩) n ict, .slice rt t.rs.length rct, .slice yt t.bs.length yct], .bool true]) (by simp [results, Tryd.results47, go_sem, z0, z1, z2, z3, z4, z5]) rfl ?_
      obtain ⟨m1, l31, l32, s8⟩ := s7.drop.drop.drop.rot3.merge
      have qn : TopIn m1 (setT j t u) (some ⟨g2, off2, none⟩) ict rt rct yt yct (ws.set j [.int .i64 u.k, .int .i64 u.n, .string u.nm, .slice iu u.is.length icu, .slice ru u.rs.length rcu, .slice yu u.bs.length ycu]) := ⟨TsIn.set (TsIn.mono l31 HQT.out.i) (TIn.mono l32 u HQV.out), LIn.mono l31 HQT.out.r, HQT.out.b.mono l31, HQT.out.q⟩
      have hln : (setT j t u).is.length = n := by show (t.is.set j u).length = n; rw [List.length_set, HN.out]
      have s9 := s8.swap
      rw [← hln] at s9
      obtain ⟨h2, q2, _, s10⟩ := qn.whole s9
      rw [hln] at s10
      have e : tVals (setT j t u) (some ⟨g2, off2, none⟩) ict rt rct yt yct = [.int .i64 5, .int .i64 t.n, .string t.nm, .slice (some ⟨g2, off2, none⟩) n ict, .slice rt t.rs.length rct, .slice yt t.bs.length yct] := by
        unfold tVals; rw [hln]; show [Value.int .i64 t.k, _, _, _, _, _] = _; rw [HK.out]; rfl
      rw [e] at q2
      exact ⟨setT j t u, _, h, h2, true, rfl, Le.refl _, s10, q2, (fun v hv => ⟨rfl, by cases hv; rfl⟩), fun hv => by cases hv⟩
end
#print axioms setElement_s
end Go.Proofs.YtlgogflhjpcmlaaDoor
