/-
  tree.Make. (Written by wip/gen/gen_makef.py.)
-/
import Derived.Test.YtlgogflhjpcmlaaDoorCopyP
import Derived.Test.YtlgogflhjpcmlaaDoorTCmp
namespace Go.Proofs.YtlgogflhjpcmlaaDoor
open Go.RowKit
set_option maxHeartbeats 8000000
set_option maxRecDepth 100000

theorem rd_of_lin_at {h : Nat → Option Obj} : ∀ {ts : List T} {a : Option Addr} {i : Nat}, LIn h ts a i → ∃ vss, TsIn h ts vss ∧ ∀ k u, vss.flatten[k]? = some u → ∃ g off, a = some ⟨g, off, none⟩ ∧ cellIn h g (off + i * 6 + k) = some u
  | [], a, i, _ => ⟨[], rfl, fun k u hk => by simp at hk⟩
  | t :: ts, a, i, q => by
    unfold LIn at q
    obtain ⟨⟨g, off, vs, e, c, q1⟩, q2⟩ := q
    obtain ⟨vss, v1, v2⟩ := rd_of_lin_at q2
    refine ⟨vs :: vss, ⟨vs, vss, rfl, q1, v1⟩, fun k u hk => ?_⟩
    rw [List.flatten_cons] at hk
    have h6 := q1.len
    by_cases hlt : k < 6
    · rw [List.getElem?_append_left (by omega)] at hk
      exact ⟨g, off, e, c k u hk⟩
    · rw [List.getElem?_append_right (by omega), h6] at hk
      obtain ⟨g', off', e', c'⟩ := v2 _ _ hk
      refine ⟨g', off', e', ?_⟩
      rw [← c']
      congr 1
      omega
theorem rd_of_lin {h : Nat → Option Obj} {ts : List T} {a : Option Addr} (q : LIn h ts a 0) : ∃ vss, TsIn h ts vss ∧ RdIn h a vss.flatten := by
  obtain ⟨vss, v1, v2⟩ := rd_of_lin_at q
  refine ⟨vss, v1, fun j u hj => ?_⟩
  obtain ⟨g, off, e, c⟩ := v2 j u hj
  exact ⟨g, off, e, by simpa using c⟩
theorem TsIn.app {h : Nat → Option Obj} : ∀ {ts us : List T} {vss wss : List (List Value)}, TsIn h ts vss → TsIn h us wss → TsIn h (ts ++ us) (vss ++ wss)
  | [], _, _, _, q, p => by simp only [TsIn] at q; subst q; exact p
  | _ :: _, _, _, _, ⟨v, rest, e, q1, q2⟩, p => ⟨v, rest ++ _, by rw [e]; rfl, q1, TsIn.app q2 p⟩
theorem TsIn.ones {h : Nat → Option Obj} : ∀ {ts : List T} {vss : List (List Value)}, TsIn h ts vss → ∀ v ∈ vss.flatten, v.oneCell' = true
  | [], _, q, v, hv => by simp only [TsIn] at q; subst q; simp at hv
  | _ :: _, _, ⟨vs, rest, e, q1, q2⟩, v, hv => by
    subst e
    rw [List.flatten_cons] at hv
    rcases List.mem_append.1 hv with hv | hv
    · exact q1.one v hv
    · exact TsIn.ones q2 v hv
/-- what Make makes -/
def makeF (is : List T) (r : T) : T :=
  if is = [] then r else if r.k = 7 then .mk 7 0 ⟨#[]⟩ (is ++ r.is) r.rs [] else if r.k = 6 then .mk 7 0 ⟨#[]⟩ is [] [] else .mk 7 0 ⟨#[]⟩ is [r] []
section
variable {W w : World} {L : List HP} {h : Nat → Option Obj}
theorem TIn.vals2 {t : T} {ia ra ba : Option Addr} {ic rc bc : Nat} (q : TIn h t (tVals t ia ic ra rc ba bc)) (_ : t.k = 7) : LIn h t.is ia 0 := by
  obtain ⟨_, _, _, _, _, _, e, q1, _⟩ := q.vals
  simp only [tVals, List.cons.injEq, Value.slice.injEq] at e
  rw [e.2.2.2.1.1]; exact q1
theorem TIn.vals3 {t : T} {ia ra ba : Option Addr} {ic rc bc : Nat} (q : TIn h t (tVals t ia ic ra rc ba bc)) : LIn h t.rs ra 0 ∧ t.rs.length ≤ rc ∧ rc ≤ maxLen := by
  obtain ⟨_, _, _, _, _, _, e, _, q1, _, _, q2, _, _, q3, _⟩ := q.vals
  simp only [tVals, List.cons.injEq, Value.slice.injEq] at e
  have e4 := e.2.2.2.2.1
  rw [e4.1, e4.2.2]; exact ⟨q1, q2, q3⟩
def MakeP (W : World) (L : List HP) (h : Nat → Option Obj) (t : T) (e : Ending) (w' : World) : Prop := ∃ vs h', e = .returned (.agg vs.toArray) ∧ Le h h' ∧ TIn h' t vs ∧ Sat W w' (arch h' :: L)
theorem make_none (S : Sat W w (arch h :: L)) (ts : List T) (a : Option Addr) (n c : Nat) (hn : n = ts.length) (hl : LIn h ts a 0) (hb : n ≤ 1353245080300) (hok : ∀ t ∈ ts, TOk t) :
    Calls Tryd.prog 70 #[.slice a n c, .slice none 0 0] w (MakeP W L h (makeF ts tNil)) := by
  have S1 := hid ((S.allocAt (k := w.heap.size) (.cells #[.int .i64 0, .int .i64 0, .string ⟨#[]⟩, .slice none 0 0, .slice none 0 0, .slice none 0 0] 35) rfl).allocAt (k := w.heap.size + 1) (.cells #[.int .i64 6, .int .i64 0, .string ⟨#[]⟩, .slice none 0 0, .slice none 0 0, .slice none 0 0] 35) (by simp))
  by_cases h0 : n = 0
  · subst h0
    have hm : makeF ts tNil = tNil := by
      obtain rfl : ts = [] := List.eq_nil_of_length_eq_zero hn.symm
      rfl
    rw [hm]
    have q0 : TIn h tNil [.int .i64 6, .int .i64 0, .string ⟨#[]⟩, .slice none 0 0, .slice none 0 0, .slice none 0 0] := TIn.of (t := tNil) (ia := none) (ra := none) (ba := none) (ic := 0) (rc := 0) (bc := 0) (LIn.nil _ _) (LIn.nil _ _) (RdIn.nil _ _) (by simp [tNil, T.is, T.rs, T.bs, maxLen])
    have Q0 := hid q0
    have S0 := hid S
    clear S hn hl hok hm q0
    go_enter Tryd.func70, Tryd.ntmps70
    go_wp2_with fail
    refine bodyPost_ret (v := .agg #[.int .i64 6, .int .i64 0, .string ⟨#[]⟩, .slice none 0 0, .slice none 0 0, .slice none 0 0]) (by simp [results, Tryd.results70, go_sem]) rfl ?_
    exact ⟨[.int .i64 6, .int .i64 0, .string ⟨#[]⟩, .slice none 0 0, .slice none 0 0, .slice none 0 0], h, rfl, Le.refl _, Q0.out, (S0.out.alloc' _).alloc' _⟩
  · have hc : (((n : Nat) : Int) == 0) = false := by simp; omega
    have hm : makeF ts tNil = .mk 7 0 ⟨#[]⟩ ts [] [] := by
      have : ts ≠ [] := fun q => by subst q; simp at hn; omega
      unfold makeF
      rw [if_neg this, if_neg (show ¬ tNil.k = 7 by decide), if_pos (show tNil.k = 6 from rfl)]
    rw [hm]
    have HC := hid (copies_of (S1.out.rot3) ts a n c hn hl hb (fun t ht => copyP_t t (hok t ht)))
    have HN := hid hn
    clear S hn hl hok hm S1
    go_enter Tryd.func70, Tryd.ntmps70
    go_wp2_with fail
    refine HC.out.mono ?_
    rintro e w1 ⟨a1, c1, vss, h1, rfl, l1, q1, s1⟩
    have hl1 := s1.rowLen
    obtain ⟨h2, l2, r2, s2⟩ := store_row s1
    have HQ := hid (LIn.of_rd (q1.mono l2) r2)
    have HL := hid (l1.trans l2)
    have HL1 := hid hl1.2
    have S3 := hid (s2.allocAt (k := w1.heap.size) (.cells #[.int .i64 7, .int .i64 0, .string ⟨#[]⟩, .slice a1 n c1, .slice none 0 0, .slice none 0 0] 35) rfl)
    have S4 := hid s2.swap
    have S5 := hid s2.rot3
    clear s1 hl1 r2 s2 q1 l1 l2 HC
    have nc0 : World.cell? (w1.alloc (.cells #[.int .i64 7, .int .i64 0, .string ⟨#[]⟩, .slice a1 n c1, .slice none 0 0, .slice none 0 0] 35)) ⟨w.heap.size + 1, 0, none⟩ = some (.int .i64 6) := (S4.out.alloc' (.cells #[.int .i64 7, .int .i64 0, .string ⟨#[]⟩, .slice a1 n c1, .slice none 0 0, .slice none 0 0] 35)).cell 0
    have nf0 := (S4.out.alloc' (.cells #[.int .i64 7, .int .i64 0, .string ⟨#[]⟩, .slice a1 n c1, .slice none 0 0, .slice none 0 0] 35)).free 0
    have zc0 : World.cell? (w1.alloc (.cells #[.int .i64 7, .int .i64 0, .string ⟨#[]⟩, .slice a1 n c1, .slice none 0 0, .slice none 0 0] 35)) ⟨w.heap.size, 0, none⟩ = some (.int .i64 0) := (S5.out.alloc' (.cells #[.int .i64 7, .int .i64 0, .string ⟨#[]⟩, .slice a1 n c1, .slice none 0 0, .slice none 0 0] 35)).cell 0
    have zf0 := (S5.out.alloc' (.cells #[.int .i64 7, .int .i64 0, .string ⟨#[]⟩, .slice a1 n c1, .slice none 0 0, .slice none 0 0] 35)).free 0
    have zc1 : World.cell? (w1.alloc (.cells #[.int .i64 7, .int .i64 0, .string ⟨#[]⟩, .slice a1 n c1, .slice none 0 0, .slice none 0 0] 35)) ⟨w.heap.size, 1, none⟩ = some (.int .i64 0) := (S5.out.alloc' (.cells #[.int .i64 7, .int .i64 0, .string ⟨#[]⟩, .slice a1 n c1, .slice none 0 0, .slice none 0 0] 35)).cell 1
    have zf1 := (S5.out.alloc' (.cells #[.int .i64 7, .int .i64 0, .string ⟨#[]⟩, .slice a1 n c1, .slice none 0 0, .slice none 0 0] 35)).free 1
    have zc2 : World.cell? (w1.alloc (.cells #[.int .i64 7, .int .i64 0, .string ⟨#[]⟩, .slice a1 n c1, .slice none 0 0, .slice none 0 0] 35)) ⟨w.heap.size, 2, none⟩ = some (.string ⟨#[]⟩) := (S5.out.alloc' (.cells #[.int .i64 7, .int .i64 0, .string ⟨#[]⟩, .slice a1 n c1, .slice none 0 0, .slice none 0 0] 35)).cell 2
    have zf2 := (S5.out.alloc' (.cells #[.int .i64 7, .int .i64 0, .string ⟨#[]⟩, .slice a1 n c1, .slice none 0 0, .slice none 0 0] 35)).free 2
    have zc3 : World.cell? (w1.alloc (.cells #[.int .i64 7, .int .i64 0, .string ⟨#[]⟩, .slice a1 n c1, .slice none 0 0, .slice none 0 0] 35)) ⟨w.heap.size, 3, none⟩ = some (.slice none 0 0) := (S5.out.alloc' (.cells #[.int .i64 7, .int .i64 0, .string ⟨#[]⟩, .slice a1 n c1, .slice none 0 0, .slice none 0 0] 35)).cell 3
    have zf3 := (S5.out.alloc' (.cells #[.int .i64 7, .int .i64 0, .string ⟨#[]⟩, .slice a1 n c1, .slice none 0 0, .slice none 0 0] 35)).free 3
    have zc4 : World.cell? (w1.alloc (.cells #[.int .i64 7, .int .i64 0, .string ⟨#[]⟩, .slice a1 n c1, .slice none 0 0, .slice none 0 0] 35)) ⟨w.heap.size, 4, none⟩ = some (.slice none 0 0) := (S5.out.alloc' (.cells #[.int .i64 7, .int .i64 0, .string ⟨#[]⟩, .slice a1 n c1, .slice none 0 0, .slice none 0 0] 35)).cell 4
    have zf4 := (S5.out.alloc' (.cells #[.int .i64 7, .int .i64 0, .string ⟨#[]⟩, .slice a1 n c1, .slice none 0 0, .slice none 0 0] 35)).free 4
    have zc5 : World.cell? (w1.alloc (.cells #[.int .i64 7, .int .i64 0, .string ⟨#[]⟩, .slice a1 n c1, .slice none 0 0, .slice none 0 0] 35)) ⟨w.heap.size, 5, none⟩ = some (.slice none 0 0) := (S5.out.alloc' (.cells #[.int .i64 7, .int .i64 0, .string ⟨#[]⟩, .slice a1 n c1, .slice none 0 0, .slice none 0 0] 35)).cell 5
    have zf5 := (S5.out.alloc' (.cells #[.int .i64 7, .int .i64 0, .string ⟨#[]⟩, .slice a1 n c1, .slice none 0 0, .slice none 0 0] 35)).free 5
    go_wp2_with fail
    have s7 := ((((((S5.out.alloc' (.cells #[.int .i64 7, .int .i64 0, .string ⟨#[]⟩, .slice a1 n c1, .slice none 0 0, .slice none 0 0] 35)).set 0 (.int .i64 7)).set 1 (.int .i64 0)).set 2 (.string ⟨#[]⟩)).set 3 (.slice a1 n c1)).set 4 (.slice none 0 0)).set 5 (.slice none 0 0)
    refine bodyPost_ret (v := .agg #[.int .i64 7, .int .i64 0, .string ⟨#[]⟩, .slice a1 n c1, .slice none 0 0, .slice none 0 0]) (by simp [results, Tryd.results70, go_sem, zc0, zc1, zc2, zc3, zc4, zc5]) rfl ?_
    have hq := TIn.of (h := h2) (t := .mk 7 0 ⟨#[]⟩ ts [] []) (ia := a1) (ra := none) (ba := none) (ic := c1) (rc := 0) (bc := 0) HQ.out (LIn.nil _ _) (RdIn.nil _ _) ⟨by show ts.length ≤ c1; rw [← HN.out]; exact HL1.out.1, Nat.le_refl _, Nat.le_refl _, HL1.out.2, by unfold maxLen; omega, by unfold maxLen; omega⟩
    have hv : tVals (.mk 7 0 ⟨#[]⟩ ts [] []) a1 c1 none 0 none 0 = [.int .i64 7, .int .i64 0, .string ⟨#[]⟩, .slice a1 n c1, .slice none 0 0, .slice none 0 0] := by rw [HN.out]; rfl
    rw [hv] at hq
    exact ⟨_, h2, rfl, HL.out, hq, s7.drop.swap.drop⟩
theorem make_some (S : Sat W w (arch h :: L)) (ts : List T) (a : Option Addr) (n c : Nat) (hn : n = ts.length) (hl : LIn h ts a 0) (hb : n ≤ 1353245080300) (hok : ∀ t ∈ ts, TOk t) (r : T) (b : Option Addr) (d : Nat) (hr : LIn h [r] b 0) (hrok : TOk r) (hsum : n + r.is.length ≤ 1353245080300) :
    Calls Tryd.prog 70 #[.slice a n c, .slice b 1 d] w (MakeP W L h (makeF ts r)) := by
  obtain ⟨g, off, vs, rfl, hc, hin⟩ := hr.get (j := 0) (t := r) rfl
  obtain ⟨ia, ic, ra, rc, ba, bc, rfl, _⟩ := id hin.vals
  have S1 := hid ((S.allocAt (k := w.heap.size) (.cells #[.int .i64 0, .int .i64 0, .string ⟨#[]⟩, .slice none 0 0, .slice none 0 0, .slice none 0 0] 35) rfl).allocAt (k := w.heap.size + 1) (.cells #[.int .i64 6, .int .i64 0, .string ⟨#[]⟩, .slice none 0 0, .slice none 0 0, .slice none 0 0] 35) (by simp)).rot3
  have k0 := S1.out.cellIn (hc 0 _ rfl)
  have k1 := S1.out.cellIn (hc 1 _ rfl)
  have k2 := S1.out.cellIn (hc 2 _ rfl)
  have k3 := S1.out.cellIn (hc 3 _ rfl)
  have k4 := S1.out.cellIn (hc 4 _ rfl)
  have k5 := S1.out.cellIn (hc 5 _ rfl)
  simp only [Nat.zero_mul, Nat.add_zero] at k0 k1 k2 k3 k4 k5
  have HCR := hid (copyP_t r hrok W _ _ h _ S1.out hin)
  have HN := hid hn
  have HLI := hid hl
  have HOK := hid hok
  have HROK := hid hrok
  unfold tVals at HCR
  clear S hn hl hok hrok hr hc hin
  by_cases h0 : n = 0
  · have hm : makeF ts r = r := by
      obtain rfl : ts = [] := List.eq_nil_of_length_eq_zero (by rw [← HN.out]; exact h0)
      rfl
    rw [hm]
    subst h0
    clear hm
    go_enter Tryd.func70, Tryd.ntmps70
    go_wp2_with fail
    refine HCR.out.mono ?_
    rintro e w1 ⟨vs1, h1, rfl, l1, q1, s1⟩
    obtain ⟨ia1, ic1, ra1, rc1, ba1, bc1, rfl, _⟩ := id q1.vals
    have Q1 := hid q1
    have L1 := hid l1
    have S2 := hid s1.swap
    have S3 := hid s1.rot3
    unfold tVals
    clear l1 q1 s1 HCR k0 k1 k2 k3 k4 k5
    have pc0 : World.cell? w1 ⟨w.heap.size + 1, 0, none⟩ = some (.int .i64 6) := S2.out.cell 0
    have pf0 := S2.out.free 0
    have pc1 : World.cell? w1 ⟨w.heap.size + 1, 1, none⟩ = some (.int .i64 0) := S2.out.cell 1
    have pf1 := S2.out.free 1
    have pc2 : World.cell? w1 ⟨w.heap.size + 1, 2, none⟩ = some (.string ⟨#[]⟩) := S2.out.cell 2
    have pf2 := S2.out.free 2
    have pc3 : World.cell? w1 ⟨w.heap.size + 1, 3, none⟩ = some (.slice none 0 0) := S2.out.cell 3
    have pf3 := S2.out.free 3
    have pc4 : World.cell? w1 ⟨w.heap.size + 1, 4, none⟩ = some (.slice none 0 0) := S2.out.cell 4
    have pf4 := S2.out.free 4
    have pc5 : World.cell? w1 ⟨w.heap.size + 1, 5, none⟩ = some (.slice none 0 0) := S2.out.cell 5
    have pf5 := S2.out.free 5
    have zc0 : World.cell? w1 ⟨w.heap.size, 0, none⟩ = some (.int .i64 0) := S3.out.cell 0
    have zf0 := S3.out.free 0
    have zc1 : World.cell? w1 ⟨w.heap.size, 1, none⟩ = some (.int .i64 0) := S3.out.cell 1
    have zf1 := S3.out.free 1
    have zc2 : World.cell? w1 ⟨w.heap.size, 2, none⟩ = some (.string ⟨#[]⟩) := S3.out.cell 2
    have zf2 := S3.out.free 2
    have zc3 : World.cell? w1 ⟨w.heap.size, 3, none⟩ = some (.slice none 0 0) := S3.out.cell 3
    have zf3 := S3.out.free 3
    have zc4 : World.cell? w1 ⟨w.heap.size, 4, none⟩ = some (.slice none 0 0) := S3.out.cell 4
    have zf4 := S3.out.free 4
    have zc5 : World.cell? w1 ⟨w.heap.size, 5, none⟩ = some (.slice none 0 0) := S3.out.cell 5
    have zf5 := S3.out.free 5
    go_wp2_with fail
    have s7 := ((((((S2.out.set 0 (.int .i64 r.k)).set 1 (.int .i64 r.n)).set 2 (.string r.nm)).set 3 (.slice ia1 r.is.length ic1)).set 4 (.slice ra1 r.rs.length rc1)).set 5 (.slice ba1 r.bs.length bc1)).rot3
    have s8 := ((((((s7.set 0 (.int .i64 r.k)).set 1 (.int .i64 r.n)).set 2 (.string r.nm)).set 3 (.slice ia1 r.is.length ic1)).set 4 (.slice ra1 r.rs.length rc1)).set 5 (.slice ba1 r.bs.length bc1))
    refine bodyPost_ret (v := .agg #[.int .i64 r.k, .int .i64 r.n, .string r.nm, .slice ia1 r.is.length ic1, .slice ra1 r.rs.length rc1, .slice ba1 r.bs.length bc1]) (by simp [results, Tryd.results70, go_sem, zc0, zc1, zc2, zc3, zc4, zc5]) rfl ?_
    exact ⟨_, h1, rfl, L1.out, Q1.out, s8.drop.drop⟩
  · have hcn : (((n : Nat) : Int) == 0) = false := by simp; omega
    have hne : ts ≠ [] := fun q => by have := HN.out; subst q; simp at this; omega
    have HNE := hid hne
    clear hne
    go_enter Tryd.func70, Tryd.ntmps70
    go_wp2_with fail
    refine HCR.out.mono ?_
    rintro e w1 ⟨vs1, h1, rfl, l1, q1, s1⟩
    obtain ⟨ia1, ic1, ra1, rc1, ba1, bc1, rfl, _⟩ := id q1.vals
    have Q1 := hid q1
    have L1 := hid l1
    have S2 := hid s1.swap
    have S3 := hid ((((((S2.out.set 0 (.int .i64 r.k)).set 1 (.int .i64 r.n)).set 2 (.string r.nm)).set 3 (.slice ia1 r.is.length ic1)).set 4 (.slice ra1 r.rs.length rc1)).set 5 (.slice ba1 r.bs.length bc1)).swap
    have HC2 := hid (copies_of S3.out ts a n c HN.out (HLI.out.mono L1.out) hb (fun t ht => copyP_t t (HOK.out t ht)))
    unfold tVals
    clear l1 q1 s1 HCR k0 k1 k2 k3 k4 k5 S1 S3
    have pc0 : World.cell? w1 ⟨w.heap.size + 1, 0, none⟩ = some (.int .i64 6) := S2.out.cell 0
    have pf0 := S2.out.free 0
    have pc1 : World.cell? w1 ⟨w.heap.size + 1, 1, none⟩ = some (.int .i64 0) := S2.out.cell 1
    have pf1 := S2.out.free 1
    have pc2 : World.cell? w1 ⟨w.heap.size + 1, 2, none⟩ = some (.string ⟨#[]⟩) := S2.out.cell 2
    have pf2 := S2.out.free 2
    have pc3 : World.cell? w1 ⟨w.heap.size + 1, 3, none⟩ = some (.slice none 0 0) := S2.out.cell 3
    have pf3 := S2.out.free 3
    have pc4 : World.cell? w1 ⟨w.heap.size + 1, 4, none⟩ = some (.slice none 0 0) := S2.out.cell 4
    have pf4 := S2.out.free 4
    have pc5 : World.cell? w1 ⟨w.heap.size + 1, 5, none⟩ = some (.slice none 0 0) := S2.out.cell 5
    have pf5 := S2.out.free 5
    go_wp2_with fail
    refine HC2.out.mono ?_
    rintro e w2 ⟨a2, c2, vss, h2, rfl, l2, q2, s2⟩
    have Q2 := hid q2
    have L2 := hid (L1.out.trans l2)
    have QR := hid (TIn.mono l2 r Q1.out)
    have S4 := hid ((s2.allocAt (k := w2.heap.size) (.cells #[.int .i64 7, .int .i64 0, .string ⟨#[]⟩, .slice a2 n c2, .slice none 0 0, .slice none 0 0] 35) rfl))
    have s3x := hid s2
    clear l2 q2 s2 HC2 S2 pc0 pf0 pc1 pf1 pc2 pf2 pc3 pf3 pc4 pf4 pc5 pf5
    have S4b := hid S4.out.rot4
    have S4c := hid S4.out.rot5
    have yc0 : World.cell? (w2.alloc (.cells #[.int .i64 7, .int .i64 0, .string ⟨#[]⟩, .slice a2 n c2, .slice none 0 0, .slice none 0 0] 35)) ⟨w.heap.size + 1, 0, none⟩ = some (.int .i64 r.k) := S4b.out.cell 0
    have yc1 : World.cell? (w2.alloc (.cells #[.int .i64 7, .int .i64 0, .string ⟨#[]⟩, .slice a2 n c2, .slice none 0 0, .slice none 0 0] 35)) ⟨w.heap.size + 1, 1, none⟩ = some (.int .i64 r.n) := S4b.out.cell 1
    have yc2 : World.cell? (w2.alloc (.cells #[.int .i64 7, .int .i64 0, .string ⟨#[]⟩, .slice a2 n c2, .slice none 0 0, .slice none 0 0] 35)) ⟨w.heap.size + 1, 2, none⟩ = some (.string r.nm) := S4b.out.cell 2
    have yc3 : World.cell? (w2.alloc (.cells #[.int .i64 7, .int .i64 0, .string ⟨#[]⟩, .slice a2 n c2, .slice none 0 0, .slice none 0 0] 35)) ⟨w.heap.size + 1, 3, none⟩ = some (.slice ia1 r.is.length ic1) := S4b.out.cell 3
    have yc4 : World.cell? (w2.alloc (.cells #[.int .i64 7, .int .i64 0, .string ⟨#[]⟩, .slice a2 n c2, .slice none 0 0, .slice none 0 0] 35)) ⟨w.heap.size + 1, 4, none⟩ = some (.slice ra1 r.rs.length rc1) := S4b.out.cell 4
    have yc5 : World.cell? (w2.alloc (.cells #[.int .i64 7, .int .i64 0, .string ⟨#[]⟩, .slice a2 n c2, .slice none 0 0, .slice none 0 0] 35)) ⟨w.heap.size + 1, 5, none⟩ = some (.slice ba1 r.bs.length bc1) := S4b.out.cell 5
    by_cases k7 : r.k = 7
    · have hd7 : (r.k == 7) = true := by simp [k7]
      obtain ⟨vss2, v1, v2⟩ := rd_of_lin (QR.out.vals2 k7)
      have hm : makeF ts r = .mk 7 0 ⟨#[]⟩ (ts ++ r.is) r.rs [] := by unfold makeF; rw [if_neg HNE.out, if_pos k7]
      have HM := hid hm
      obtain ⟨m, HMM⟩ : ∃ m, Hid (r.is.length = m) := ⟨_, hid rfl⟩
      have hfl : vss2.flatten.length = m * 6 := by rw [v1.flat, HMM.out]
      have S5 := hid S4.out.swap
      have HRD := hid (S4.out.rot3.archRd v2)
      have HV1 := hid v1
      have hsum2 : n + m ≤ 1353245080300 := by rw [← HMM.out]; exact hsum
      have HFL := hid hfl
      clear hm v1 v2 hfl
      rw [HMM.out] at yc3
      go_wp2_with (at_builtin
                   refine wpList_append_srcN rfl _ _ rfl elemT rfl S5.out vss2.flatten rfl HFL.out HRD.out HV1.out.ones (by unfold maxLen; omega) (by omega) ?_
                   intro a' c' w3 s6 ha' hz
                   have S6 := hid s6
                   have S6b := hid s6.swap
                   have S6c := hid s6.rot4
                   have S6d := hid s6.rot5
                   have n1 : ¬ w2.heap.size = w.heap.size + 1 := S6b.out.swap.drop.swap.drop.ne
                   have n2 : ¬ w.heap.size + 1 = w2.heap.size := fun q => n1 q.symm
                   have n3 : ¬ w2.heap.size = w.heap.size := S6b.out.swap.drop.swap.drop.swap.drop.ne
                   have n4 : ¬ w.heap.size = w2.heap.size := fun q => n3 q.symm
                   clear s6 ha' hz yc0 yc1 yc2 yc3 yc4 yc5
                   have qc0 : World.cell? w3 ⟨w2.heap.size, 0, none⟩ = some (.int .i64 7) := S6b.out.cell 0
                   have qf0 := S6b.out.free 0
                   have qc1 : World.cell? w3 ⟨w2.heap.size, 1, none⟩ = some (.int .i64 0) := S6b.out.cell 1
                   have qf1 := S6b.out.free 1
                   have qc2 : World.cell? w3 ⟨w2.heap.size, 2, none⟩ = some (.string ⟨#[]⟩) := S6b.out.cell 2
                   have qf2 := S6b.out.free 2
                   have qc3 : World.cell? w3 ⟨w2.heap.size, 3, none⟩ = some (.slice a2 n c2) := S6b.out.cell 3
                   have qf3 := S6b.out.free 3
                   have qc4 : World.cell? w3 ⟨w2.heap.size, 4, none⟩ = some (.slice none 0 0) := S6b.out.cell 4
                   have qf4 := S6b.out.free 4
                   have qc5 : World.cell? w3 ⟨w2.heap.size, 5, none⟩ = some (.slice none 0 0) := S6b.out.cell 5
                   have qf5 := S6b.out.free 5
                   have yc4 : World.cell? w3 ⟨w.heap.size + 1, 4, none⟩ = some (.slice ra1 r.rs.length rc1) := S6c.out.cell 4
                   have zc0 : World.cell? w3 ⟨w.heap.size, 0, none⟩ = some (.int .i64 0) := S6d.out.cell 0
                   have zf0 := S6d.out.free 0
                   have zc1 : World.cell? w3 ⟨w.heap.size, 1, none⟩ = some (.int .i64 0) := S6d.out.cell 1
                   have zf1 := S6d.out.free 1
                   have zc2 : World.cell? w3 ⟨w.heap.size, 2, none⟩ = some (.string ⟨#[]⟩) := S6d.out.cell 2
                   have zf2 := S6d.out.free 2
                   have zc3 : World.cell? w3 ⟨w.heap.size, 3, none⟩ = some (.slice none 0 0) := S6d.out.cell 3
                   have zf3 := S6d.out.free 3
                   have zc4 : World.cell? w3 ⟨w.heap.size, 4, none⟩ = some (.slice none 0 0) := S6d.out.cell 4
                   have zf4 := S6d.out.free 4
                   have zc5 : World.cell? w3 ⟨w.heap.size, 5, none⟩ = some (.slice none 0 0) := S6d.out.cell 5
                   have zf5 := S6d.out.free 5)
      have t1 := ((S6b.out.set 3 (.slice a' (n + m) c')).set 4 (.slice ra1 r.rs.length rc1)).rot5
      have t2 := ((((((t1.set 0 (.int .i64 7)).set 1 (.int .i64 0)).set 2 (.string ⟨#[]⟩)).set 3 (.slice a' (n + m) c')).set 4 (.slice ra1 r.rs.length rc1)).set 5 (.slice none 0 0))
      have t3 := t2.drop.drop
      have hl8 := t3.rowLen
      obtain ⟨h3, l3, r3, s9⟩ := store_row t3
      have hq := TIn.of (h := h3) (t := .mk 7 0 ⟨#[]⟩ (ts ++ r.is) r.rs []) (ia := a') (ra := ra1) (ba := none) (ic := c') (rc := rc1) (bc := 0) (LIn.of_rd ((Q2.out.app HV1.out).mono l3) (by rw [List.flatten_append]; exact r3)) ((QR.out.vals3).1.mono l3) (RdIn.nil _ _) ⟨by show (ts ++ r.is).length ≤ c'; rw [List.length_append, ← HN.out, HMM.out]; exact hl8.2.1, QR.out.vals3.2.1, Nat.le_refl _, hl8.2.2, QR.out.vals3.2.2, by unfold maxLen; omega⟩
      have hv : tVals (.mk 7 0 ⟨#[]⟩ (ts ++ r.is) r.rs []) a' c' ra1 rc1 none 0 = [.int .i64 7, .int .i64 0, .string ⟨#[]⟩, .slice a' (n + m) c', .slice ra1 r.rs.length rc1, .slice none 0 0] := by
        show ([.int .i64 7, .int .i64 0, .string ⟨#[]⟩, .slice a' (ts ++ r.is).length c', .slice ra1 r.rs.length rc1, .slice none 0 0] : List Value) = _
        rw [List.length_append, ← HN.out, HMM.out]
      rw [hv] at hq
      refine bodyPost_ret (v := .agg #[.int .i64 7, .int .i64 0, .string ⟨#[]⟩, .slice a' (n + m) c', .slice ra1 r.rs.length rc1, .slice none 0 0]) (by simp [results, Tryd.results70, go_sem, zc0, zc1, zc2, zc3, zc4, zc5]) rfl ?_
      exact ⟨_, h3, rfl, L2.out.trans l3, by rw [HM.out]; exact hq, s9.swap.drop⟩
    · have hd7 : (r.k == 7) = false := by simp [k7]
      by_cases k6 : r.k = 6
      · have hd6 : (r.k == 6) = true := by simp [k6]
        have hm : makeF ts r = .mk 7 0 ⟨#[]⟩ ts [] [] := by unfold makeF; rw [if_neg HNE.out, if_neg k7, if_pos k6]
        have HM := hid hm
        clear hm
        have zc0 : World.cell? (w2.alloc (.cells #[.int .i64 7, .int .i64 0, .string ⟨#[]⟩, .slice a2 n c2, .slice none 0 0, .slice none 0 0] 35)) ⟨w.heap.size, 0, none⟩ = some (.int .i64 0) := S4c.out.cell 0
        have zf0 := S4c.out.free 0
        have zc1 : World.cell? (w2.alloc (.cells #[.int .i64 7, .int .i64 0, .string ⟨#[]⟩, .slice a2 n c2, .slice none 0 0, .slice none 0 0] 35)) ⟨w.heap.size, 1, none⟩ = some (.int .i64 0) := S4c.out.cell 1
        have zf1 := S4c.out.free 1
        have zc2 : World.cell? (w2.alloc (.cells #[.int .i64 7, .int .i64 0, .string ⟨#[]⟩, .slice a2 n c2, .slice none 0 0, .slice none 0 0] 35)) ⟨w.heap.size, 2, none⟩ = some (.string ⟨#[]⟩) := S4c.out.cell 2
        have zf2 := S4c.out.free 2
        have zc3 : World.cell? (w2.alloc (.cells #[.int .i64 7, .int .i64 0, .string ⟨#[]⟩, .slice a2 n c2, .slice none 0 0, .slice none 0 0] 35)) ⟨w.heap.size, 3, none⟩ = some (.slice none 0 0) := S4c.out.cell 3
        have zf3 := S4c.out.free 3
        have zc4 : World.cell? (w2.alloc (.cells #[.int .i64 7, .int .i64 0, .string ⟨#[]⟩, .slice a2 n c2, .slice none 0 0, .slice none 0 0] 35)) ⟨w.heap.size, 4, none⟩ = some (.slice none 0 0) := S4c.out.cell 4
        have zf4 := S4c.out.free 4
        have zc5 : World.cell? (w2.alloc (.cells #[.int .i64 7, .int .i64 0, .string ⟨#[]⟩, .slice a2 n c2, .slice none 0 0, .slice none 0 0] 35)) ⟨w.heap.size, 5, none⟩ = some (.slice none 0 0) := S4c.out.cell 5
        have zf5 := S4c.out.free 5
        go_wp2_with fail
        have s7 := ((((((S4c.out.set 0 (.int .i64 7)).set 1 (.int .i64 0)).set 2 (.string ⟨#[]⟩)).set 3 (.slice a2 n c2)).set 4 (.slice none 0 0)).set 5 (.slice none 0 0))
        have s8 := s7.drop.drop
        have hl8 := s8.rowLen
        obtain ⟨h3, l3, r3, s9⟩ := store_row s8
        have hq := TIn.of (h := h3) (t := .mk 7 0 ⟨#[]⟩ ts [] []) (ia := a2) (ra := none) (ba := none) (ic := c2) (rc := 0) (bc := 0) (LIn.of_rd (Q2.out.mono l3) r3) (LIn.nil _ _) (RdIn.nil _ _) ⟨by show ts.length ≤ c2; rw [← HN.out]; exact hl8.2.1, Nat.le_refl _, Nat.le_refl _, hl8.2.2, by unfold maxLen; omega, by unfold maxLen; omega⟩
        have hv : tVals (.mk 7 0 ⟨#[]⟩ ts [] []) a2 c2 none 0 none 0 = [.int .i64 7, .int .i64 0, .string ⟨#[]⟩, .slice a2 n c2, .slice none 0 0, .slice none 0 0] := by rw [HN.out]; rfl
        rw [hv] at hq
        refine bodyPost_ret (v := .agg #[.int .i64 7, .int .i64 0, .string ⟨#[]⟩, .slice a2 n c2, .slice none 0 0, .slice none 0 0]) (by simp [results, Tryd.results70, go_sem, zc0, zc1, zc2, zc3, zc4, zc5]) rfl ?_
        exact ⟨_, h3, rfl, L2.out.trans l3, by rw [HM.out]; exact hq, s9.swap.drop⟩
      · have hd6 : (r.k == 6) = false := by simp [k6]
        have hm : makeF ts r = .mk 7 0 ⟨#[]⟩ ts [r] [] := by unfold makeF; rw [if_neg HNE.out, if_neg k7, if_neg k6]
        have HM := hid hm
        clear hm
        have S8 := hid (((s3x.out.alloc' (.cells #[.int .i64 7, .int .i64 0, .string ⟨#[]⟩, .slice a2 n c2, .slice (some ⟨w2.heap.size + 1, 0, none⟩) 1 1, .slice none 0 0] 35)).allocAt (k := w2.heap.size + 1) (.cells #[.int .i64 r.k, .int .i64 r.n, .string r.nm, .slice ia1 r.is.length ic1, .slice ra1 r.rs.length rc1, .slice ba1 r.bs.length bc1] 35) (by simp)).rot5)
        have zc0 : World.cell? ((w2.alloc (.cells #[.int .i64 7, .int .i64 0, .string ⟨#[]⟩, .slice a2 n c2, .slice (some ⟨w2.heap.size + 1, 0, none⟩) 1 1, .slice none 0 0] 35)).alloc (.cells #[.int .i64 r.k, .int .i64 r.n, .string r.nm, .slice ia1 r.is.length ic1, .slice ra1 r.rs.length rc1, .slice ba1 r.bs.length bc1] 35)) ⟨w.heap.size, 0, none⟩ = some (.int .i64 0) := S8.out.cell 0
        have zf0 := S8.out.free 0
        have zc1 : World.cell? ((w2.alloc (.cells #[.int .i64 7, .int .i64 0, .string ⟨#[]⟩, .slice a2 n c2, .slice (some ⟨w2.heap.size + 1, 0, none⟩) 1 1, .slice none 0 0] 35)).alloc (.cells #[.int .i64 r.k, .int .i64 r.n, .string r.nm, .slice ia1 r.is.length ic1, .slice ra1 r.rs.length rc1, .slice ba1 r.bs.length bc1] 35)) ⟨w.heap.size, 1, none⟩ = some (.int .i64 0) := S8.out.cell 1
        have zf1 := S8.out.free 1
        have zc2 : World.cell? ((w2.alloc (.cells #[.int .i64 7, .int .i64 0, .string ⟨#[]⟩, .slice a2 n c2, .slice (some ⟨w2.heap.size + 1, 0, none⟩) 1 1, .slice none 0 0] 35)).alloc (.cells #[.int .i64 r.k, .int .i64 r.n, .string r.nm, .slice ia1 r.is.length ic1, .slice ra1 r.rs.length rc1, .slice ba1 r.bs.length bc1] 35)) ⟨w.heap.size, 2, none⟩ = some (.string ⟨#[]⟩) := S8.out.cell 2
        have zf2 := S8.out.free 2
        have zc3 : World.cell? ((w2.alloc (.cells #[.int .i64 7, .int .i64 0, .string ⟨#[]⟩, .slice a2 n c2, .slice (some ⟨w2.heap.size + 1, 0, none⟩) 1 1, .slice none 0 0] 35)).alloc (.cells #[.int .i64 r.k, .int .i64 r.n, .string r.nm, .slice ia1 r.is.length ic1, .slice ra1 r.rs.length rc1, .slice ba1 r.bs.length bc1] 35)) ⟨w.heap.size, 3, none⟩ = some (.slice none 0 0) := S8.out.cell 3
        have zf3 := S8.out.free 3
        have zc4 : World.cell? ((w2.alloc (.cells #[.int .i64 7, .int .i64 0, .string ⟨#[]⟩, .slice a2 n c2, .slice (some ⟨w2.heap.size + 1, 0, none⟩) 1 1, .slice none 0 0] 35)).alloc (.cells #[.int .i64 r.k, .int .i64 r.n, .string r.nm, .slice ia1 r.is.length ic1, .slice ra1 r.rs.length rc1, .slice ba1 r.bs.length bc1] 35)) ⟨w.heap.size, 4, none⟩ = some (.slice none 0 0) := S8.out.cell 4
        have zf4 := S8.out.free 4
        have zc5 : World.cell? ((w2.alloc (.cells #[.int .i64 7, .int .i64 0, .string ⟨#[]⟩, .slice a2 n c2, .slice (some ⟨w2.heap.size + 1, 0, none⟩) 1 1, .slice none 0 0] 35)).alloc (.cells #[.int .i64 r.k, .int .i64 r.n, .string r.nm, .slice ia1 r.is.length ic1, .slice ra1 r.rs.length rc1, .slice ba1 r.bs.length bc1] 35)) ⟨w.heap.size, 5, none⟩ = some (.slice none 0 0) := S8.out.cell 5
        have zf5 := S8.out.free 5
        go_wp2_with fail
        have s7 := ((((((S8.out.set 0 (.int .i64 7)).set 1 (.int .i64 0)).set 2 (.string ⟨#[]⟩)).set 3 (.slice a2 n c2)).set 4 (.slice (some ⟨w2.heap.size + 1, 0, none⟩) 1 1)).set 5 (.slice none 0 0))
        have s8 := s7.drop.swap.imp (under sw2)
        have hl8 := s8.rowLen
        obtain ⟨h3, l3, r3, s9⟩ := store_row s8
        obtain ⟨h4, l4, r4, s10⟩ := store_lit s9.swap
        have hlr : LIn h4 [r] (some ⟨w2.heap.size + 1, 0, none⟩) 0 := LIn.of_rd (vss := [[.int .i64 r.k, .int .i64 r.n, .string r.nm, .slice ia1 r.is.length ic1, .slice ra1 r.rs.length rc1, .slice ba1 r.bs.length bc1]]) ⟨_, _, rfl, TIn.mono (l3.trans l4) r QR.out, rfl⟩ (by simpa using r4)
        have hq := TIn.of (h := h4) (t := .mk 7 0 ⟨#[]⟩ ts [r] []) (ia := a2) (ra := some ⟨w2.heap.size + 1, 0, none⟩) (ba := none) (ic := c2) (rc := 1) (bc := 0) (LIn.of_rd (Q2.out.mono (l3.trans l4)) (r3.mono l4)) hlr (RdIn.nil _ _) ⟨by show ts.length ≤ c2; rw [← HN.out]; exact hl8.2.1, Nat.le_refl _, Nat.le_refl _, hl8.2.2, by unfold maxLen; omega, by unfold maxLen; omega⟩
        have hv : tVals (.mk 7 0 ⟨#[]⟩ ts [r] []) a2 c2 (some ⟨w2.heap.size + 1, 0, none⟩) 1 none 0 = [.int .i64 7, .int .i64 0, .string ⟨#[]⟩, .slice a2 n c2, .slice (some ⟨w2.heap.size + 1, 0, none⟩) 1 1, .slice none 0 0] := by rw [HN.out]; rfl
        rw [hv] at hq
        refine bodyPost_ret (v := .agg #[.int .i64 7, .int .i64 0, .string ⟨#[]⟩, .slice a2 n c2, .slice (some ⟨w2.heap.size + 1, 0, none⟩) 1 1, .slice none 0 0]) (by simp [results, Tryd.results70, go_sem, zc0, zc1, zc2, zc3, zc4, zc5]) rfl ?_
        exact ⟨_, h4, rfl, L2.out.trans (l3.trans l4), by rw [HM.out]; exact hq, s10.swap.drop⟩
end
end Go.Proofs.YtlgogflhjpcmlaaDoor
