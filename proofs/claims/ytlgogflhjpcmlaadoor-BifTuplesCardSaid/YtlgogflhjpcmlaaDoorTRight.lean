/-
  tree.Right: the parts of a term, one by one.
-/
import Derived.Test.YtlgogflhjpcmlaaDoorTFieldsB
import Derived.Test.YtlgogflhjpcmlaaDoorErr
import Derived.Deep.LoopGhost
import Derived.IntWalk
import Derived.Deep.DeepCutAuto
import Derived.Deep.CutBlock
namespace Go.Proofs.YtlgogflhjpcmlaaDoor
open Go.RowKit
set_option maxHeartbeats 2000000

/-! ### what it finds -/
abbrev Ck : Type := (Nat × Nat) × Option (Nat × Int)
/-- a binary's bytes count -/
def addB (t : T) : Nat := if t.k = 8 then t.bs.length else 0
/-- what is met at a term itself: too many, too deep, wrong, or right -/
def chk0 (d : Nat) (t : T) (p b : Nat) : Option (Nat × Int) :=
  if p + 1 + (b + addB t) > 65536 ∨ d > 200 then some (p, 2) else if flds t = false then some (p, 1) else none
mutual
def chk : Nat → T → Nat → Nat → Ck
  | d, .mk k n nm is rs bs, p, b =>
    match chk0 d (.mk k n nm is rs bs) p b with
    | some e => ((p + 1, b + addB (.mk k n nm is rs bs)), some e)
    | none => match chkL (d + 1) is (p + 1) (b + addB (.mk k n nm is rs bs)) with
      | (s, some e) => (s, some e)
      | (s, none) => chkL (d + 1) rs s.1 s.2
def chkL : Nat → List T → Nat → Nat → Ck
  | _, [], p, b => ((p, b), none)
  | d, t :: ts, p, b => match chk d t p b with
    | (s, some e) => (s, some e)
    | (s, none) => chkL d ts s.1 s.2
end
def rightOf (t : T) : Option (Nat × Int) := (chk 1 t 0 0).2
theorem chk_eq (d : Nat) (t : T) (p b : Nat) : chk d t p b = match chk0 d t p b with
    | some e => ((p + 1, b + addB t), some e)
    | none => match chkL (d + 1) t.is (p + 1) (b + addB t) with
      | (s, some e) => (s, some e)
      | (s, none) => chkL (d + 1) t.rs s.1 s.2 := by
  cases t with
  | mk k n nm is rs bs => unfold chk; rfl
theorem chk0_none {d : Nat} {t : T} {p b : Nat} (h : chk0 d t p b = none) : p + 1 + (b + addB t) ≤ 65536 ∧ d ≤ 200 ∧ flds t = true := by
  unfold chk0 at h
  by_cases q : p + 1 + (b + addB t) > 65536 ∨ d > 200
  · rw [if_pos q] at h; cases h
  · rw [if_neg q] at h
    cases hf : flds t with
    | true => exact ⟨by omega, by omega, rfl⟩
    | false => rw [hf, if_pos rfl] at h; cases h
theorem chkL_append (d : Nat) : ∀ (xs ys : List T) (p b : Nat), chkL d (xs ++ ys) p b = match chkL d xs p b with | (s, some e) => (s, some e) | (s, none) => chkL d ys s.1 s.2
  | [], ys, p, b => by simp [chkL]
  | x :: xs, ys, p, b => by
    rw [List.cons_append, chkL, chkL]
    cases h : chk d x p b with
    | mk s e =>
      cases e with
      | none => simp only; exact chkL_append d xs ys s.1 s.2
      | some e => rfl
/-- while nothing is wrong the counts stay small -/
theorem chk_small (d : Nat) (t : T) : ∀ (p b : Nat) (s : Nat × Nat), p + b ≤ 65536 → chk d t p b = (s, none) → s.1 + s.2 ≤ 65536 := by
  have key : ∀ (ts : List T), (∀ t ∈ ts, ∀ (d p b : Nat) (s : Nat × Nat), p + b ≤ 65536 → chk d t p b = (s, none) → s.1 + s.2 ≤ 65536) → ∀ (d p b : Nat) (s : Nat × Nat), p + b ≤ 65536 → chkL d ts p b = (s, none) → s.1 + s.2 ≤ 65536 := by
    intro ts
    induction ts with
    | nil =>
      intro _ d p b s h q
      simp only [chkL, Prod.mk.injEq, and_true] at q
      subst q; exact h
    | cons x xs ih =>
      intro f d p b s h q
      rw [chkL] at q
      cases hx : chk d x p b with
      | mk s1 e =>
        rw [hx] at q
        cases e with
        | some e => simp at q
        | none => exact ih (fun t ht => f t (by simp [ht])) d s1.1 s1.2 s (f x (by simp) d p b s1 h hx) q
  induction t using T.ind generalizing d with
  | h k n nm is rs bs ih1 ih2 =>
    intro p b s h q
    rw [chk_eq] at q
    cases h0 : chk0 d (.mk k n nm is rs bs) p b with
    | some e => rw [h0] at q; simp at q
    | none =>
      rw [h0] at q
      simp only at q
      have hb := (chk0_none h0).1
      cases h1 : chkL (d + 1) (T.mk k n nm is rs bs).is (p + 1) (b + addB (.mk k n nm is rs bs)) with
      | mk s1 e =>
        rw [h1] at q
        cases e with
        | some e => simp at q
        | none =>
          have h2 := key is (fun t ht d => ih1 t ht d) (d + 1) _ _ s1 hb h1
          exact key rs (fun t ht d => ih2 t ht d) (d + 1) _ _ s h2 q
def tTerm : ByteArray := ⟨#[116, 101, 114, 109]⟩
def ErrOf (h : Nat → Option Obj) (v : Value) : Option (Nat × Int) → Prop
  | none => v = .nilIface
  | some (n, k) => ErrIn h v [(tTerm, n)] k
theorem chkL_step {d : Nat} {ts : List T} {i p b : Nat} {x : T} {s s2 : Nat × Nat} {e : Option (Nat × Int)} (h1 : chkL d (ts.take i) p b = (s, none)) (hx : ts[i]? = some x) (h2 : chk d x s.1 s.2 = (s2, e)) : chkL d (ts.take (i + 1)) p b = (s2, e) := by
  rw [List.take_add_one, hx, chkL_append, h1]
  simp only [Option.toList_some, chkL, h2]
  cases e <;> rfl
theorem chkL_err {d : Nat} {ts : List T} {i p b : Nat} {x : T} {s s2 : Nat × Nat} {e : Nat × Int} (h1 : chkL d (ts.take i) p b = (s, none)) (hx : ts[i]? = some x) (h2 : chk d x s.1 s.2 = (s2, some e)) : chkL d ts p b = (s2, some e) := by
  rw [← List.take_append_drop (i + 1) ts, chkL_append, chkL_step h1 hx h2]
/-- where the walk through a term's two lists stands -/
def CkAt (d : Nat) (t : T) (p b : Nat) : Nat → (Nat × Nat) → Prop
  | 0, s => s = (p + 1, b + addB t)
  | 1, s => chkL (d + 1) t.is (p + 1) (b + addB t) = (s, none)
  | _, s => chk d t p b = (s, none)
def TermC (t : T) : Prop := ∀ (W w : World) (L : List HP) (h : Nat → Option Obj) (vs : List Value) (q p b d : Nat), Sat W w (blk q (.cells #[.int .i64 p, .int .i64 b] 73 (0, 0)) :: arch h :: L) → TIn h t vs → p + b ≤ 65536 → d ≤ 201 →
  Calls Tryd.prog 35 #[.pointer (some ⟨q, 0, none⟩), .agg vs.toArray, .int .i64 d] w fun e w' => ∃ v h', e = .returned v ∧ Le h h' ∧ ErrOf h' v (chk d t p b).2 ∧ Sat W w' (blk q (.cells #[.int .i64 (chk d t p b).1.1, .int .i64 (chk d t p b).1.2] 73 (0, 0)) :: arch h' :: L)
set_option maxRecDepth 100000 in
theorem term_step (t : T) (hok : TOk t) (ih1 : ∀ x ∈ t.is, TermC x) (ih2 : ∀ x ∈ t.rs, TermC x) : TermC t := by
  intro W w L h vs q p b d S hin hpb hd
  obtain ⟨ia, ic, ra, rc, ba, bc, rfl, q1, q2, q3, _⟩ := hin.vals
  have HIN := hid hin
  have HOK := hid hok
  have HF := hid hok.fit
  obtain ⟨ni, HNI⟩ : ∃ ni, Hid (t.is.length = ni) := ⟨_, hid rfl⟩
  obtain ⟨nr, HNR⟩ : ∃ nr, Hid (t.rs.length = nr) := ⟨_, hid rfl⟩
  obtain ⟨nb, HNB⟩ : ∃ nb, Hid (t.bs.length = nb) := ⟨_, hid rfl⟩
  obtain ⟨b', HB⟩ : ∃ b', Hid (b' = b + addB t) := ⟨_, hid rfl⟩
  have b1 : ni ≤ 1353245080300 := by rw [← HNI.out]; exact HF.out.is
  have b2 : nr ≤ 1353245080300 := by rw [← HNR.out]; exact HF.out.rs
  have b3 : nb ≤ 140737488351232 := by rw [← HNB.out]; exact HF.out.bs
  have HQ1 := hid q1
  have HQ2 := hid q2
  have IH1 := hid ih1
  have IH2 := hid ih2
  obtain ⟨cr, HCR⟩ : ∃ cr, Hid (chk d t p b = cr) := ⟨_, hid rfl⟩
  have s1 := (S.allocAt (k := w.heap.size) (.cells #[.int .i64 t.k, .int .i64 t.n, .string t.nm, .slice ia ni ic, .slice ra nr rc, .slice ba nb bc] 35) rfl).rot3.rot3
  unfold tVals
  rw [HNI.out, HNR.out, HNB.out, HCR.out]
  have S1 := hid s1
  have c0 : World.cell? _ ⟨q, 0, none⟩ = some (.int .i64 p) := s1.cell 0
  have f0 := s1.free 0
  have S2 := hid (s1.set 0 (.int .i64 ((p : Int) + 1)))
  have c1 : World.cell? _ ⟨q, 1, none⟩ = some (.int .i64 b) := S2.out.cell 1
  have f1 := S2.out.free 1
  have t0 : World.cell? _ ⟨w.heap.size, 0, none⟩ = some (.int .i64 t.k) := S2.out.rot3.cell 0
  have t5 : World.cell? _ ⟨w.heap.size, 5, none⟩ = some (.slice ba nb bc) := S2.out.rot3.cell 5
  clear S hin hok q1 q2 q3 ih1 ih2 s1
  go_enter Tryd.func35, Tryd.ntmps35
  go_upto_if 26 with fail
  go_cut [7] (fun v wc => v = .int .i64 p ∧ Hid (Sat W wc (blk q (.cells #[.int .i64 ((p : Int) + 1), .int .i64 b'] 73 (0, 0)) :: arch h :: blk w.heap.size (.cells #[.int .i64 t.k, .int .i64 t.n, .string t.nm, .slice ia ni ic, .slice ra nr rc, .slice ba nb bc] 35 (0, 0)) :: L)))
  case first =>
    by_cases h8 : t.k = 8
    · have hk : (t.k == 8) = true := by simpa using h8
      have hb' : (b : Int) + nb = b' := by rw [HB.out, addB, if_pos h8, HNB.out]; omega
      have HB' := hid hb'
      clear h8 hb'
      go_wp2_with fail
      go_region_law (fail)
      all_goals go_wp2_with fail
      all_goals go_meet
      all_goals refine ⟨rfl, hid ?_⟩
      all_goals have s3 := (S2.out.set 1 (.int .i64 ((b : Int) + nb))).drew
      all_goals rw [HB'.out] at s3 ⊢
      all_goals rw [IntWalk.i64_in (b' : Int) (by have := HB'.out; omega)]
      all_goals exact s3
    · have hk : (t.k == 8) = false := by simpa using h8
      have hb' : b' = b := by rw [HB.out, addB, if_neg h8]; omega
      have HB' := hid hb'
      clear h8 hb'
      go_wp2_with fail
      go_meet
      exact ⟨rfl, hid (by rw [HB'.out]; exact S2.out)⟩
  case rest =>
    obtain ⟨rfl, S⟩ := hcut
    clear c0 c1 f0 f1 t0 t5 S1 S2
    have hbb : b' ≤ 65536 + 140737488351232 := by
      rw [HB.out]
      unfold addB
      have := HNB.out
      split <;> omega
    have c0 : wc.cell? ⟨q, 0, none⟩ = some (.int .i64 ((p : Int) + 1)) := S.out.cell 0
    have c1 : wc.cell? ⟨q, 1, none⟩ = some (.int .i64 b') := S.out.cell 1
    have t0 : wc.cell? ⟨w.heap.size, 0, none⟩ = some (.int .i64 t.k) := S.out.rot3.cell 0
    have t1 : wc.cell? ⟨w.heap.size, 1, none⟩ = some (.int .i64 t.n) := S.out.rot3.cell 1
    have t2 : wc.cell? ⟨w.heap.size, 2, none⟩ = some (.string t.nm) := S.out.rot3.cell 2
    have t3 : wc.cell? ⟨w.heap.size, 3, none⟩ = some (.slice ia ni ic) := S.out.rot3.cell 3
    have t4 : wc.cell? ⟨w.heap.size, 4, none⟩ = some (.slice ra nr rc) := S.out.rot3.cell 4
    have t5 : wc.cell? ⟨w.heap.size, 5, none⟩ = some (.slice ba nb bc) := S.out.rot3.cell 5
    have hw : IntKind.i64.wrap ((p : Int) + 1 + b') = (p : Int) + 1 + b' := IntWalk.i64_in _ (by omega)
    by_cases g : (65536 : Int) < (p : Int) + 1 + b' ∨ d > 200
    · have hcr : cr = ((p + 1, b'), some (p, 2)) := by
        rw [← HCR.out, chk_eq]
        have : chk0 d t p b = some (p, 2) := by unfold chk0; rw [if_pos (by rw [← HB.out]; omega)]
        rw [this, HB.out]
      have HC2 := hid hcr
      clear hcr
      rcases (show (65536 : Int) < (p : Int) + 1 + b' ∨ (¬ (65536 : Int) < (p : Int) + 1 + b' ∧ (200 : Int) < d) by omega) with g1 | ⟨g1, g2⟩
      all_goals clear g
      all_goals go_wp2_with fail
      all_goals go_quiet (fail)
      all_goals clear hw
      all_goals go_wp2_with fail
      all_goals refine (at_some (S.out.swap.drewN _) tTerm p (v := .iface 85 (.int .i64 2)) (fs := []) (k := 2) rfl).mono ?_
      all_goals rintro e w1 ⟨v', h', rfl, le, he, s1⟩
      all_goals have HLE := hid le
      all_goals have HE := hid he
      all_goals have S2 := hid s1
      all_goals clear le he s1 S c0 c1 t0 t1 t2 t3 t4 t5
      all_goals go_wp2_with fail
      all_goals go_ret
      all_goals rw [HC2.out]
      all_goals exact ⟨_, h', rfl, HLE.out, HE.out, (S2.out.rot3.drop).swap⟩
    · have g1 : ¬ (65536 : Int) < (p : Int) + 1 + b' := fun x => g (.inl x)
      have g2 : ¬ (200 : Int) < d := fun x => g (.inr (by omega))
      have hd1 : decide ((65536 : Int) < (p : Int) + 1 + b') = false := decide_eq_false g1
      have hd2 : decide ((200 : Int) < (d : Int)) = false := decide_eq_false g2
      clear g
      go_wp2_with fail
      go_quiet (fail)
      clear hw
      go_wp2_with fail
      have hfc := fields_any ((S.out.swap.drewN nq)) t _ HIN.out HOK.out
      unfold tVals at hfc
      rw [HNI.out, HNR.out, HNB.out] at hfc
      refine hfc.mono ?_
      rintro e w1 ⟨rfl, s1⟩
      have S2 := hid s1
      clear s1 S hfc c0 c1 t0 t1 t2 t3 t4 t5
      have t3 : w1.cell? ⟨w.heap.size, 3, none⟩ = some (.slice ia ni ic) := S2.out.rot3.cell 3
      have t4 : w1.cell? ⟨w.heap.size, 4, none⟩ = some (.slice ra nr rc) := S2.out.rot3.cell 4
      cases hfl : flds t with
      | false =>
        have hcr : cr = ((p + 1, b'), some (p, 1)) := by
          rw [← HCR.out, chk_eq]
          have : chk0 d t p b = some (p, 1) := by unfold chk0; rw [if_neg (by rw [← HB.out]; omega), hfl, if_pos rfl]
          rw [this, HB.out]
        have HC2 := hid hcr
        clear hcr hfl
        go_wp2_with fail
        refine (at_some S2.out tTerm p (v := .iface 85 (.int .i64 1)) (fs := []) (k := 1) rfl).mono ?_
        rintro e w2 ⟨v', h', rfl, le, he, s1⟩
        have HLE := hid le
        have HE := hid he
        have S3 := hid s1
        clear le he s1 S2 t3 t4
        go_wp2_with fail
        go_ret
        rw [HC2.out]
        exact ⟨_, h', rfl, HLE.out, HE.out, (S3.out.rot3.drop).swap⟩
      | true =>
        have h0 : chk0 d t p b = none := by unfold chk0; rw [if_neg (by rw [← HB.out]; omega), hfl, if_neg (by decide)]
        have H0 := hid h0
        clear hfl h0
        go_wp2_with fail
        have S3 := hid ((S2.out.allocAt (k := w1.heap.size) (.cells #[.slice ia ni ic, .slice ra nr rc] 31) rfl).rot3)
        have S3' := hid (S3.out.rot4.drop.unrot3.swap.rot3)
        clear S2 S3 t3 t4 hd1 hd2
        obtain ⟨lb, HLB⟩ : ∃ lb, Hid (w1.heap.size = lb) := ⟨_, hid rfl⟩
        rw [HLB.out] at S3' ⊢
        have hd200 : d ≤ 200 := by omega
        go_loopw [66] (fun jv wr => ∃ (j : Nat) (s : Nat × Nat) (h' : Nat → Option Obj), j ≤ 2 ∧ jv = .int .i64 j ∧ Hid (CkAt d t p b j s) ∧ s.1 + s.2 ≤ 65536 ∧ Hid (Le h h') ∧ Hid (Sat W wr (blk q (.cells #[.int .i64 s.1, .int .i64 s.2] 73 (0, 0)) :: arch h' :: blk lb (.cells #[.slice ia ni ic, .slice ra nr rc] 31 (0, 0)) :: L))) (fun jv _ => 2 - (intOf jv).toNat)
        case atStart => exact ⟨0, (p + 1, b'), h, by omega, rfl, hid (by rw [HB.out]; rfl), by simp only; omega, hid (Le.refl _), by have := S3'; simpa using this⟩
        case round =>
          obtain ⟨j, s, h', hj, rfl, HCK, hsb, HLE, S⟩ := hrel
          clear S3'
          by_cases hlt : j < 2
          · obtain ⟨ls, la, ln, lc, hcell, HLN, HLI, HIH, hlb, HER, HOKK⟩ : ∃ (ls : List T) (la : Option Addr) (ln lc : Nat), (#[.slice ia ni ic, .slice ra nr rc] : Array Value)[j]? = some (.slice la ln lc) ∧ Hid (ls.length = ln) ∧ Hid (LIn h ls la 0) ∧ Hid (∀ x ∈ ls, TermC x ∧ TOk x) ∧ ln ≤ 1353245080300 ∧ Hid (∀ s2 e, chkL (d + 1) ls s.1 s.2 = (s2, some e) → chk d t p b = (s2, some e)) ∧ Hid (∀ s2, chkL (d + 1) ls s.1 s.2 = (s2, none) → CkAt d t p b (j + 1) s2) := by
              match j, hlt, HCK.out with
              | 0, _, hck =>
                have hs : s = (p + 1, b + addB t) := hck
                subst hs
                refine ⟨t.is, ia, ni, ic, rfl, HNI, HQ1, hid (fun x hx => ⟨IH1.out x hx, HF.out.si x hx⟩), b1, hid (fun s2 e he => ?_), hid (fun s2 he => he)⟩
                rw [chk_eq, H0.out]
                simp only at he ⊢
                rw [he]
              | 1, _, hck =>
                have hs : chkL (d + 1) t.is (p + 1) (b + addB t) = (s, none) := hck
                refine ⟨t.rs, ra, nr, rc, rfl, HNR, HQ2, hid (fun x hx => ⟨IH2.out x hx, HF.out.sr x hx⟩), b2, hid (fun s2 e he => ?_), hid (fun s2 he => ?_)⟩
                · rw [chk_eq, H0.out]
                  simp only [hs]
                  exact he
                · show chk d t p b = (s2, none)
                  rw [chk_eq, H0.out]
                  simp only [hs]
                  exact he
            have hlc : wr.cell? ⟨lb, j, none⟩ = some (.slice la ln lc) := by rw [S.out.rot3.cell j, hcell]
            have hj2 : decide ((j : Int) < 2) = true := decide_eq_true (by omega)
            clear hcell
            go_wp2_with fail
            clear hj2
            go_loopw [72] (fun iv wr => ∃ (i : Nat) (s2 : Nat × Nat) (h2 : Nat → Option Obj), i ≤ ln ∧ iv = .int .i64 i ∧ Hid (chkL (d + 1) (ls.take i) s.1 s.2 = (s2, none)) ∧ s2.1 + s2.2 ≤ 65536 ∧ Hid (Le h h2) ∧ Hid (Sat W wr (blk q (.cells #[.int .i64 s2.1, .int .i64 s2.2] 73 (0, 0)) :: arch h2 :: blk lb (.cells #[.slice ia ni ic, .slice ra nr rc] 31 (0, 0)) :: L))) (fun iv _ => ln - (intOf iv).toNat)
            case atStart => exact ⟨0, s, h', Nat.zero_le _, rfl, hid rfl, hsb, HLE, S⟩
            case round =>
              obtain ⟨i, s2, h2, hi, rfl, HC2, hs2, HLE2, S5⟩ := hrel
              clear S hlc HLE
              by_cases hlt2 : i < ln
              · obtain ⟨x, hx⟩ : ∃ x, ls[i]? = some x := ⟨_, List.getElem?_eq_getElem (by have := HLN.out; omega)⟩
                obtain ⟨g, off, xs, rfl, hc, hin⟩ := (HLI.out.mono HLE2.out).get hx
                have hin0 := hin
                obtain ⟨ia', ic', ra', rc', ba', bc', rfl, _⟩ := hin.vals
                have k0 := S5.out.drop.cellIn (hc 0 _ rfl)
                have k1 := S5.out.drop.cellIn (hc 1 _ rfl)
                have k2 := S5.out.drop.cellIn (hc 2 _ rfl)
                have k3 := S5.out.drop.cellIn (hc 3 _ rfl)
                have k4 := S5.out.drop.cellIn (hc 4 _ rfl)
                have k5 := S5.out.drop.cellIn (hc 5 _ rfl)
                rw [Nat.zero_add] at k0 k1 k2 k3 k4 k5
                rw [Nat.add_zero] at k0
                have htc := (HIH.out x (List.mem_of_getElem? hx)).1 W _ _ _ _ q s2.1 s2.2 (d + 1) (S5.out.alloc' (.cells (tVals x ia' ic' ra' rc' ba' bc').toArray 35)) hin0 hs2 (by omega)
                have hsm := chk_small (d + 1) x s2.1 s2.2
                rw [show (((d + 1 : Nat)) : Int) = (d : Int) + 1 by omega] at htc
                obtain ⟨ck, HCK2⟩ : ∃ ck, Hid (chk (d + 1) x s2.1 s2.2 = ck) := ⟨_, hid rfl⟩
                rw [HCK2.out] at htc
                have HTC := hid htc
                have HX := hid hx
                clear hc hin hin0 hx htc hsm
                unfold tVals at HTC
                go_wp2_with fail
                refine HTC.out.mono ?_
                rintro e w3 ⟨v, h3, rfl, le, he, s3⟩
                obtain ⟨s4, e4⟩ := ck
                have HLE3 := hid (HLE2.out.trans le)
                have S6 := hid s3
                clear le s3 S5 HTC k0 k1 k2 k3 k4 k5
                cases e4 with
                | none =>
                  simp only [ErrOf] at he
                  subst he
                  have hcs := chkL_step HC2.out HX.out HCK2.out
                  have hs4 := chk_small (d + 1) x s2.1 s2.2 s4 hs2 HCK2.out
                  have HCS := hid hcs
                  clear hcs
                  go_wp2_with fail
                  go_roundw
                  case rel => exact ⟨i + 1, s4, h3, by omega, by go_num, HCS, hs4, HLE3, S6⟩
                  case measure => simp [intOf]; omega
                | some e =>
                  obtain ⟨en, ek⟩ := e
                  simp only [ErrOf] at he
                  obtain ⟨et, ex, rfl⟩ := he.iface
                  have hcr : cr = (s4, some (en, ek)) := by rw [← HCR.out]; exact HER.out _ _ (chkL_err HC2.out HX.out HCK2.out)
                  have HE := hid he
                  have HCR2 := hid hcr
                  clear he hcr
                  go_wp2_with fail
                  go_ret
                  rw [HCR2.out]
                  exact ⟨_, h3, rfl, HLE3.out, HE.out, (S6.out.rot3.drop)⟩
              · obtain rfl : i = ln := by omega
                have hck := HC2.out
                rw [List.take_of_length_le (by rw [HLN.out]; exact Nat.le_refl _)] at hck
                have HCK3 := hid (HOKK.out _ hck)
                clear hck
                go_wp2_with fail
                go_roundw
                case rel => exact ⟨j + 1, s2, h2, by omega, by go_num, HCK3, hs2, HLE2, S5⟩
                case measure => simp [intOf]; omega
          · obtain rfl : j = 2 := by omega
            have hcr : cr = (s, none) := by rw [← HCR.out]; exact HCK.out
            have HCR2 := hid hcr
            clear hcr
            go_wp2_with fail
            go_ret
            rw [HCR2.out]
            exact ⟨_, h', rfl, HLE.out, rfl, S.out.rot3.drop⟩
theorem term_t (t : T) : TOk t → TermC t := by
  induction t using T.ind with
  | h k n nm is rs bs ih1 ih2 =>
    intro hok
    have hf := hok.fit
    exact term_step _ hok (fun x hx => ih1 x hx (hf.si x hx)) (fun x hx => ih2 x hx (hf.sr x hx))
section
variable {W w : World} {L : List HP} {h : Nat → Option Obj}
theorem right_t (S : Sat W w (arch h :: L)) (t : T) (vs : List Value) (hin : TIn h t vs) (hok : TOk t) :
    Calls Tryd.prog 26 #[.agg vs.toArray] w fun e w' => ∃ v h', e = .returned v ∧ Le h h' ∧ ErrOf h' v (rightOf t) ∧ Sat W w' (arch h' :: L) := by
  obtain ⟨ia, ic, ra, rc, ba, bc, rfl, _⟩ := hin.vals
  have htc := term_t t hok W _ L h (tVals t ia ic ra rc ba bc) (w.heap.size + 1) 0 0 1 ((S.alloc' (.cells (tVals t ia ic ra rc ba bc).toArray 35)).allocAt (k := w.heap.size + 1) (.cells #[.int .i64 (0 : Nat), .int .i64 (0 : Nat)] 73) (by simp)) hin (by omega) (by omega)
  have HTC := hid htc
  unfold tVals at HTC ⊢
  clear S hin htc
  go_enter Tryd.func26, Tryd.ntmps26
  go_wp2_with fail
  refine HTC.out.mono ?_
  rintro e w3 ⟨v, h3, rfl, le, he, s3⟩
  have HLE3 := hid le
  have HE := hid he
  have S6 := hid s3
  clear le he s3 HTC
  go_wp2_with fail
  go_ret
  exact ⟨v, h3, rfl, HLE3.out, HE.out, S6.out.drop⟩
end
#print axioms right_t
end Go.Proofs.YtlgogflhjpcmlaaDoor
