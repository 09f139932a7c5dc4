/-
  The document's own look at a term: the same parts, the same errors. (Written by wip/gen/gen_look.py.)
-/
import Derived.Test.YteaabbghnfideaaDoorTFail
namespace Go.Proofs.YteaabbghnfideaaDoor
open Go.RowKit
set_option maxHeartbeats 40000000

def LookC (t : T) : Prop := ∀ (W w : World) (L : List HP) (h : Nat → Option Obj) (vs : List Value) (l p b d : Nat), Sat W w (blk l (.cells #[.int .i64 (65536 - ((p : Int) + b)), .int .i64 p, .pointer none] 70 (0, 0)) :: arch h :: L) → TIn h t vs → p + b ≤ 65536 → d ≤ 201 →
  Calls Tryd.prog 37 #[.pointer (some ⟨l, 0, none⟩), .agg vs.toArray, .int .i64 d] w fun e w' => ∃ x h', e = .returned (.tuple #[]) ∧ Le h h' ∧ XOf h' x (chk d t p b).2 ∧ Sat W w' (blk l (.cells #[.int .i64 (65536 - (((chk d t p b).1.1 : Int) + (chk d t p b).1.2)), .int .i64 (chk d t p b).1.1, .pointer x] 70 (0, 0)) :: arch h' :: L)
theorem chk_app {d : Nat} {t : T} {p b : Nat} (h0 : chk0 d t p b = none) : chk d t p b = chkL (d + 1) (t.is ++ t.rs) (p + 1) (b + addB t) := by
  rw [chk_eq, h0, chkL_append]
theorem chkL_stay {d : Nat} {ts : List T} {i p b : Nat} {s : Nat × Nat} {e : Nat × Int} (h : chkL d (ts.take i) p b = (s, some e)) : chkL d (ts.take (i + 1)) p b = (s, some e) := by
  rw [List.take_add_one, chkL_append, h]
theorem chkL_small (d : Nat) : ∀ (ts : List T) (p b : Nat) (s : Nat × Nat), p + b ≤ 65536 → chkL d ts p b = (s, none) → s.1 + s.2 ≤ 65536
  | [], p, b, s, h, q => by simp only [chkL, Prod.mk.injEq, and_true] at q; subst q; exact h
  | x :: xs, p, b, s, h, q => by
    rw [chkL] at q
    cases hx : chk d x p b with
    | mk s1 e =>
      rw [hx] at q
      cases e with
      | some e => simp at q
      | none => exact chkL_small d xs s1.1 s1.2 s (chk_small d x p b s1 h hx) q
/-- a part more: looked at, or passed by where something was wrong already -/
theorem look_next {W w : World} {L : List HP} {h : Nat → Option Obj} {x1 : T} {d p b i l : Nat} {ls : List T} {s : Nat × Nat} {e : Option (Nat × Int)} {x : Option Addr} {ia ra ba : Option Addr} {ic rc bc : Nat}
    (hl : LookC x1) (hck : chkL d (ls.take i) p b = (s, e)) (hs : p + b ≤ 65536) (hx : ls[i]? = some x1) (hxo : XOf h x e)
    (S : Sat W w (blk l (.cells #[.int .i64 (65536 - ((s.1 : Int) + s.2)), .int .i64 s.1, .pointer x] 70 (0, 0)) :: arch h :: L)) (hin : TIn h x1 (tVals x1 ia ic ra rc ba bc)) (hd : d ≤ 201) :
    Calls Tryd.prog 37 #[.pointer (some ⟨l, 0, none⟩), .agg (tVals x1 ia ic ra rc ba bc).toArray, .int .i64 d] w fun r w' => ∃ (s2 : Nat × Nat) (e2 : Option (Nat × Int)) (x2 : Option Addr) (h2 : Nat → Option Obj), r = .returned (.tuple #[]) ∧ chkL d (ls.take (i + 1)) p b = (s2, e2) ∧ Le h h2 ∧ XOf h2 x2 e2 ∧
      Sat W w' (blk l (.cells #[.int .i64 (65536 - ((s2.1 : Int) + s2.2)), .int .i64 s2.1, .pointer x2] 70 (0, 0)) :: arch h2 :: L) := by
  cases e with
  | none =>
    simp only [XOf] at hxo
    subst hxo
    have hsm := chkL_small d _ p b s hs hck
    refine (hl W w L h _ l s.1 s.2 d S hin hsm hd).mono ?_
    rintro r w' ⟨x2, h2, rfl, le, hx2, s2⟩
    exact ⟨_, _, x2, h2, rfl, chkL_step hck hx rfl, le, hx2, s2⟩
  | some e =>
    obtain ⟨xb, rfl⟩ := XIn.some hxo
    refine (look_err S _ _ _ _ _ _ (d : Int)).mono ?_
    rintro r w' ⟨rfl, s2⟩
    exact ⟨s, some e, _, h, rfl, chkL_stay hck, Le.refl _, hxo, s2⟩
set_option maxRecDepth 100000 in
theorem look_step (k n : Int) (nm : ByteArray) (is rs : List T) (bs : List Int) (hok : TOk (.mk k n nm is rs bs)) (ih1 : ∀ x ∈ is, LookC x) (ih2 : ∀ x ∈ rs, LookC x) : LookC (.mk k n nm is rs bs) := by
  intro W w L h vs l p b d S hin hpb hd
  obtain ⟨ia, ic, ra, rc, ba, bc, rfl, q1, q2, q3, _⟩ := hin.vals
  obtain ⟨t, HT⟩ : ∃ t : T, Hid (T.mk k n nm is rs bs = t) := ⟨_, hid rfl⟩
  have HF := hid hok.fit
  obtain ⟨ni, HNI⟩ : ∃ ni, Hid (is.length = ni) := ⟨_, hid rfl⟩
  obtain ⟨nr, HNR⟩ : ∃ nr, Hid (rs.length = nr) := ⟨_, hid rfl⟩
  obtain ⟨nb, HNB⟩ : ∃ nb, Hid (bs.length = nb) := ⟨_, hid rfl⟩
  obtain ⟨rk, HRK⟩ : ∃ rk, Hid (restK (.mk k n nm is rs bs) = rk) := ⟨_, hid rfl⟩
  have hrk : nr = 1 → ∃ g off, ra = some ⟨g, off, none⟩ ∧ cellIn h g off = some (.int .i64 rk) := by
    intro hr
    obtain ⟨x, hx⟩ : ∃ x, rs = [x] := List.length_eq_one_iff.1 (by rw [HNR.out, hr])
    obtain ⟨g, off, vs, e, c, hi⟩ := q2.get (j := 0) (t := x) (by simp only [T.rs, hx]; rfl)
    obtain ⟨ia', ic', ra', rc', ba', bc', rfl, _⟩ := hi.vals
    refine ⟨g, off, e, ?_⟩
    have := c 0 _ rfl
    have hr2 : restK (.mk k n nm is rs bs) = x.k := by unfold restK; simp only [T.rs, hx]
    rw [← HRK.out, hr2]
    simpa using this
  have HRR := hid hrk
  obtain ⟨b', HB⟩ : ∃ b', Hid (b' = b + addB (.mk k n nm is rs bs)) := ⟨_, hid rfl⟩
  have b1 : ni ≤ 1353245080300 := by rw [← HNI.out]; exact HF.out.is
  have b2 : nr ≤ 1353245080300 := by rw [← HNR.out]; exact HF.out.rs
  have b3 : nb ≤ 140737488351232 := by rw [← HNB.out]; exact HF.out.bs
  have b4 : nm.size ≤ 140737488351232 := HF.out.nm
  have HQ1 := hid q1
  have HQ2 := hid q2
  have IH1 := hid ih1
  have IH2 := hid ih2
  obtain ⟨cr, HCR⟩ : ∃ cr, Hid (chk d (.mk k n nm is rs bs) p b = cr) := ⟨_, hid rfl⟩
  have hfl : flds (.mk k n nm is rs bs) = fldB k n nm.size ni nr nb rk := by unfold flds; rw [HRK.out]; simp only [T.k, T.n, T.nm, T.is, T.rs, T.bs, HNI.out, HNR.out, HNB.out]
  have HFL := hid hfl
  obtain ⟨lf, HLF⟩ : ∃ lf : Int, Hid (65536 - ((p : Int) + b) = lf) := ⟨_, hid rfl⟩
  have hlf : 0 ≤ lf ∧ lf ≤ 65536 := by have := HLF.out; omega
  obtain ⟨lf2, HLF2⟩ : ∃ lf2 : Int, Hid (65536 - ((p : Int) + 1 + b') = lf2) := ⟨_, hid rfl⟩
  rw [HLF.out] at S
  unfold tVals
  simp only [T.k, T.n, T.nm, T.is, T.rs, T.bs] at HQ1 HQ2 ⊢
  rw [HNI.out, HNR.out, HNB.out, HCR.out]
  have s1 := (S.allocAt (k := w.heap.size) (.cells #[.int .i64 k, .int .i64 n, .string nm, .slice ia ni ic, .slice ra nr rc, .slice ba nb bc] 25) rfl).rot3.rot3
  have S1 := hid s1
  have e2 : World.cell? _ ⟨l, 2, none⟩ = some (.pointer none) := s1.cell 2
  have e1 : World.cell? _ ⟨l, 1, none⟩ = some (.int .i64 p) := s1.cell 1
  have f1 := s1.free 1
  have S2 := hid (s1.set 1 (.int .i64 ((p : Int) + 1)))
  have e0 : World.cell? _ ⟨l, 0, none⟩ = some (.int .i64 lf) := S2.out.cell 0
  have f0 := S2.out.free 0
  have S3 := hid (S2.out.set 0 (.int .i64 (lf - 1)))
  have g0 : World.cell? _ ⟨l, 0, none⟩ = some (.int .i64 (lf - 1)) := S3.out.cell 0
  have h0 := S3.out.free 0
  have t0 : World.cell? _ ⟨w.heap.size, 0, none⟩ = some (.int .i64 k) := S3.out.rot3.cell 0
  have t5 : World.cell? _ ⟨w.heap.size, 5, none⟩ = some (.slice ba nb bc) := S3.out.rot3.cell 5
  clear S hin hok q1 q2 q3 ih1 ih2 s1 hfl hrk
  go_enter Tryd.func37, Tryd.ntmps37
  go_upto_if 40 with fail
  go_cut [6] (fun v wc => v = .int .i64 p ∧ Hid (Sat W wc (blk l (.cells #[.int .i64 lf2, .int .i64 ((p : Int) + 1), .pointer none] 70 (0, 0)) :: arch h :: blk w.heap.size (.cells #[.int .i64 k, .int .i64 n, .string nm, .slice ia ni ic, .slice ra nr rc, .slice ba nb bc] 25 (0, 0)) :: L)))
  case first =>
    by_cases h8 : k = 8
    · have hk : (k == 8) = true := by simpa using h8
      have hb' : lf - 1 - nb = lf2 := by
        rw [← HLF.out, ← HLF2.out, HB.out]
        have h9 : addB (.mk k n nm is rs bs) = nb := by unfold addB; rw [if_pos (show (T.mk k n nm is rs bs).k = 8 from h8)]; exact HNB.out
        rw [h9]
        omega
      have HB' := hid hb'
      clear h8 hb'
      go_wp2_with fail
      go_region_law (fail)
      all_goals go_wp2_with fail
      all_goals go_meet
      all_goals refine ⟨rfl, hid ?_⟩
      all_goals have s3 := (S3.out.set 0 (.int .i64 (lf - 1 - nb))).drew
      all_goals rw [HB'.out] at s3 ⊢
      all_goals rw [IntWalk.i64_in lf2 (by have := HB'.out; omega)]
      all_goals exact s3
    · have hk : (k == 8) = false := by simpa using h8
      have hb' : lf - 1 = lf2 := by
        rw [← HLF.out, ← HLF2.out, HB.out]
        have h9 : addB (.mk k n nm is rs bs) = 0 := by unfold addB; rw [if_neg (show ¬ (T.mk k n nm is rs bs).k = 8 from h8)]
        rw [h9]
        omega
      have HB' := hid hb'
      clear h8 hb'
      go_wp2_with fail
      go_meet
      exact ⟨rfl, hid (by rw [← HB'.out]; exact S3.out)⟩
  case rest =>
    obtain ⟨rfl, S⟩ := hcut
    clear e2 e1 e0 g0 h0 f0 f1 t0 t5 S1 S2 S3
    have e0 : wc.cell? ⟨l, 0, none⟩ = some (.int .i64 lf2) := S.out.cell 0
    have t0 : wc.cell? ⟨w.heap.size, 0, none⟩ = some (.int .i64 k) := S.out.rot3.cell 0
    have t1 : wc.cell? ⟨w.heap.size, 1, none⟩ = some (.int .i64 n) := S.out.rot3.cell 1
    have t2 : wc.cell? ⟨w.heap.size, 2, none⟩ = some (.string nm) := S.out.rot3.cell 2
    have t3 : wc.cell? ⟨w.heap.size, 3, none⟩ = some (.slice ia ni ic) := S.out.rot3.cell 3
    have t4 : wc.cell? ⟨w.heap.size, 4, none⟩ = some (.slice ra nr rc) := S.out.rot3.cell 4
    have t5 : wc.cell? ⟨w.heap.size, 5, none⟩ = some (.slice ba nb bc) := S.out.rot3.cell 5
    by_cases g : lf2 < 0 ∨ d > 200
    · have hcr : cr = ((p + 1, b'), some (p, 2)) := by
        rw [← HCR.out, chk_eq]
        have : chk0 d (.mk k n nm is rs bs) p b = some (p, 2) := by unfold chk0; rw [if_pos (by rw [← HB.out]; have := HLF2.out; omega)]
        rw [this, HB.out]
      have HC2 := hid hcr
      clear hcr
      rcases (show lf2 < 0 ∨ (¬ lf2 < 0 ∧ (200 : Int) < d) by omega) with g1 | ⟨g1, g2⟩
      all_goals clear g
      all_goals go_wp2_with fail
      all_goals refine (fail_any S.out p 2).mono ?_
      all_goals rintro e w1 ⟨x, h', rfl, le, he, s1⟩
      all_goals have HLE := hid le
      all_goals have HE := hid he
      all_goals have S2 := hid s1
      all_goals clear le he s1 S e0 t0 t1 t2 t3 t4 t5
      all_goals go_wp2_with fail
      all_goals refine bodyPost_ret (v := .tuple #[]) (by simp [results, Tryd.results37, go_sem]) rfl ⟨x, h', rfl, HLE.out, ?_, ?_⟩
      all_goals rw [HC2.out]
      all_goals first
        | exact HE.out
        | (have s2 := S2.out.rot3.drop; simp only; rw [← HLF2.out] at s2; exact s2)
    · have g1 : ¬ lf2 < 0 := fun x => g (.inl x)
      have g2 : ¬ (200 : Int) < d := fun x => g (.inr (by omega))
      have hd1 : decide (lf2 < 0) = false := decide_eq_false g1
      have hd2 : decide ((200 : Int) < (d : Int)) = false := decide_eq_false g2
      clear g
      obtain ⟨fb, HFB⟩ : ∃ fb, Hid (fldB k n nm.size ni nr nb rk = fb) := ⟨_, hid rfl⟩
      go_upto_block 0 with fail
      go_cut [7, 8, 9, 10, 11, 12] (fun _ _ _ _ _ v wd => v = .bool (!fb) ∧ wc = wd)
      case first =>
        by_cases k1 : k = 1
        · subst k1
          by_cases g0 : nm.size = 0
          · skip
            by_cases g1 : ni = 0
            · skip
              by_cases g2 : nr = 0
              · skip
                by_cases g3 : nb = 0
                · skip
                  have hfb : fb = true := by rw [← HFB.out]; exact (show _ = decide (nm.size = 0 ∧ ni + nr + nb = 0) from rfl).trans (decide_eq_true (by omega))
                  subst hfb
                  clear HRR
                  obtain rfl := size0 g0
                  subst g1
                  subst g2
                  subst g3
                  as_aux_lemma =>
                    go_wp2_with fail
                    go_meet
                    first | exact ⟨rfl, rfl⟩ | trivial
                · skip
                  have hfb : fb = false := by rw [← HFB.out]; exact (show _ = decide (nm.size = 0 ∧ ni + nr + nb = 0) from rfl).trans (decide_eq_false (by omega))
                  subst hfb
                  clear HRR
                  have g3b : decide ((0 : Int) < (nb : Int)) = true := decide_eq_true (by omega)
                  have g3c : decide (0 < nb) = true := decide_eq_true (by omega)
                  obtain rfl := size0 g0
                  subst g1
                  subst g2
                  as_aux_lemma =>
                    go_wp2_with fail
                    go_meet
                    first | exact ⟨rfl, rfl⟩ | trivial
              · skip
                have hfb : fb = false := by rw [← HFB.out]; exact (show _ = decide (nm.size = 0 ∧ ni + nr + nb = 0) from rfl).trans (decide_eq_false (by omega))
                subst hfb
                clear HRR
                have g2b : decide ((0 : Int) < (nr : Int)) = true := decide_eq_true (by omega)
                have g2c : decide (0 < nr) = true := decide_eq_true (by omega)
                obtain rfl := size0 g0
                subst g1
                as_aux_lemma =>
                  go_wp2_with fail
                  go_meet
                  first | exact ⟨rfl, rfl⟩ | trivial
            · skip
              have hfb : fb = false := by rw [← HFB.out]; exact (show _ = decide (nm.size = 0 ∧ ni + nr + nb = 0) from rfl).trans (decide_eq_false (by omega))
              subst hfb
              clear HRR
              have g1b : decide ((0 : Int) < (ni : Int)) = true := decide_eq_true (by omega)
              have g1c : decide (0 < ni) = true := decide_eq_true (by omega)
              obtain rfl := size0 g0
              as_aux_lemma =>
                go_wp2_with fail
                go_meet
                first | exact ⟨rfl, rfl⟩ | trivial
          · skip
            have hfb : fb = false := by rw [← HFB.out]; exact (show _ = decide (nm.size = 0 ∧ ni + nr + nb = 0) from rfl).trans (decide_eq_false (by omega))
            subst hfb
            clear HRR
            obtain ⟨g01, g02, g03⟩ := size1 g0
            as_aux_lemma =>
              go_wp2_with fail
              go_meet
              first | exact ⟨rfl, rfl⟩ | trivial
        by_cases k2 : k = 2
        · subst k2
          by_cases g0 : n = 0
          · skip
            by_cases g1 : ni = 0
            · skip
              by_cases g2 : nr = 0
              · skip
                by_cases g3 : nb = 0
                · skip
                  by_cases g4 : 1 ≤ nm.size
                  · skip
                    by_cases g5 : nm.size ≤ 255
                    · skip
                      have hfb : fb = true := by rw [← HFB.out]; exact (show _ = decide (n = 0 ∧ 1 ≤ nm.size ∧ nm.size ≤ 255 ∧ ni + nr + nb = 0) from rfl).trans (decide_eq_true (by omega))
                      subst hfb
                      clear HRR
                      subst g0
                      subst g1
                      subst g2
                      subst g3
                      obtain ⟨g41, g42, g43⟩ := size1 (by omega : ¬ nm.size = 0)
                      have g5b : decide ((255 : Int) < (nm.size : Int)) = false := decide_eq_false (by omega)
                      as_aux_lemma =>
                        go_wp2_with fail
                        go_meet
                        first | exact ⟨rfl, rfl⟩ | trivial
                    · skip
                      have hfb : fb = false := by rw [← HFB.out]; exact (show _ = decide (n = 0 ∧ 1 ≤ nm.size ∧ nm.size ≤ 255 ∧ ni + nr + nb = 0) from rfl).trans (decide_eq_false (by omega))
                      subst hfb
                      clear HRR
                      have g5b : decide ((255 : Int) < (nm.size : Int)) = true := decide_eq_true (by omega)
                      subst g0
                      subst g1
                      subst g2
                      subst g3
                      obtain ⟨g41, g42, g43⟩ := size1 (by omega : ¬ nm.size = 0)
                      as_aux_lemma =>
                        go_wp2_with fail
                        go_meet
                        first | exact ⟨rfl, rfl⟩ | trivial
                  · skip
                    have hfb : fb = false := by rw [← HFB.out]; exact (show _ = decide (n = 0 ∧ 1 ≤ nm.size ∧ nm.size ≤ 255 ∧ ni + nr + nb = 0) from rfl).trans (decide_eq_false (by omega))
                    subst hfb
                    clear HRR
                    obtain rfl := size0 (by omega : nm.size = 0)
                    subst g0
                    subst g1
                    subst g2
                    subst g3
                    as_aux_lemma =>
                      go_wp2_with fail
                      go_meet
                      first | exact ⟨rfl, rfl⟩ | trivial
                · skip
                  have hfb : fb = false := by rw [← HFB.out]; exact (show _ = decide (n = 0 ∧ 1 ≤ nm.size ∧ nm.size ≤ 255 ∧ ni + nr + nb = 0) from rfl).trans (decide_eq_false (by omega))
                  subst hfb
                  clear HRR
                  have g3b : decide ((0 : Int) < (nb : Int)) = true := decide_eq_true (by omega)
                  have g3c : decide (0 < nb) = true := decide_eq_true (by omega)
                  subst g0
                  subst g1
                  subst g2
                  as_aux_lemma =>
                    go_wp2_with fail
                    go_meet
                    first | exact ⟨rfl, rfl⟩ | trivial
              · skip
                have hfb : fb = false := by rw [← HFB.out]; exact (show _ = decide (n = 0 ∧ 1 ≤ nm.size ∧ nm.size ≤ 255 ∧ ni + nr + nb = 0) from rfl).trans (decide_eq_false (by omega))
                subst hfb
                clear HRR
                have g2b : decide ((0 : Int) < (nr : Int)) = true := decide_eq_true (by omega)
                have g2c : decide (0 < nr) = true := decide_eq_true (by omega)
                subst g0
                subst g1
                as_aux_lemma =>
                  go_wp2_with fail
                  go_meet
                  first | exact ⟨rfl, rfl⟩ | trivial
            · skip
              have hfb : fb = false := by rw [← HFB.out]; exact (show _ = decide (n = 0 ∧ 1 ≤ nm.size ∧ nm.size ≤ 255 ∧ ni + nr + nb = 0) from rfl).trans (decide_eq_false (by omega))
              subst hfb
              clear HRR
              have g1b : decide ((0 : Int) < (ni : Int)) = true := decide_eq_true (by omega)
              have g1c : decide (0 < ni) = true := decide_eq_true (by omega)
              subst g0
              as_aux_lemma =>
                go_wp2_with fail
                go_meet
                first | exact ⟨rfl, rfl⟩ | trivial
          · skip
            have hfb : fb = false := by rw [← HFB.out]; exact (show _ = decide (n = 0 ∧ 1 ≤ nm.size ∧ nm.size ≤ 255 ∧ ni + nr + nb = 0) from rfl).trans (decide_eq_false (by omega))
            subst hfb
            clear HRR
            have g0b : (n == 0) = false := by simpa using g0
            have g0c : (n != 0) = true := by simpa using g0
            as_aux_lemma =>
              go_wp2_with fail
              go_meet
              first | exact ⟨rfl, rfl⟩ | trivial
        by_cases k3 : k = 3
        · subst k3
          by_cases g0 : nm.size = 0
          · skip
            by_cases g1 : ni = 0
            · skip
              by_cases g2 : nr = 0
              · skip
                by_cases g3 : nb = 0
                · skip
                  by_cases g4 : 0 ≤ n
                  · skip
                    by_cases g5 : n < 1152921504606846976
                    · skip
                      have hfb : fb = true := by rw [← HFB.out]; exact (show _ = decide (0 ≤ n ∧ n < 1152921504606846976 ∧ nm.size = 0 ∧ ni + nr + nb = 0) from rfl).trans (decide_eq_true (by omega))
                      subst hfb
                      clear HRR
                      obtain rfl := size0 g0
                      subst g1
                      subst g2
                      subst g3
                      have g4b : decide (n < 0) = false := decide_eq_false (by omega)
                      have g5b : decide ((1152921504606846976 : Int) ≤ n) = false := decide_eq_false (by omega)
                      as_aux_lemma =>
                        go_wp2_with fail
                        go_meet
                        first | exact ⟨rfl, rfl⟩ | trivial
                    · skip
                      have hfb : fb = false := by rw [← HFB.out]; exact (show _ = decide (0 ≤ n ∧ n < 1152921504606846976 ∧ nm.size = 0 ∧ ni + nr + nb = 0) from rfl).trans (decide_eq_false (by omega))
                      subst hfb
                      clear HRR
                      have g5b : decide ((1152921504606846976 : Int) ≤ n) = true := decide_eq_true (by omega)
                      obtain rfl := size0 g0
                      subst g1
                      subst g2
                      subst g3
                      have g4b : decide (n < 0) = false := decide_eq_false (by omega)
                      as_aux_lemma =>
                        go_wp2_with fail
                        go_meet
                        first | exact ⟨rfl, rfl⟩ | trivial
                  · skip
                    have hfb : fb = false := by rw [← HFB.out]; exact (show _ = decide (0 ≤ n ∧ n < 1152921504606846976 ∧ nm.size = 0 ∧ ni + nr + nb = 0) from rfl).trans (decide_eq_false (by omega))
                    subst hfb
                    clear HRR
                    have g4b : decide (n < 0) = true := decide_eq_true (by omega)
                    obtain rfl := size0 g0
                    subst g1
                    subst g2
                    subst g3
                    as_aux_lemma =>
                      go_wp2_with fail
                      go_meet
                      first | exact ⟨rfl, rfl⟩ | trivial
                · skip
                  have hfb : fb = false := by rw [← HFB.out]; exact (show _ = decide (0 ≤ n ∧ n < 1152921504606846976 ∧ nm.size = 0 ∧ ni + nr + nb = 0) from rfl).trans (decide_eq_false (by omega))
                  subst hfb
                  clear HRR
                  have g3b : decide ((0 : Int) < (nb : Int)) = true := decide_eq_true (by omega)
                  have g3c : decide (0 < nb) = true := decide_eq_true (by omega)
                  obtain rfl := size0 g0
                  subst g1
                  subst g2
                  as_aux_lemma =>
                    go_wp2_with fail
                    go_meet
                    first | exact ⟨rfl, rfl⟩ | trivial
              · skip
                have hfb : fb = false := by rw [← HFB.out]; exact (show _ = decide (0 ≤ n ∧ n < 1152921504606846976 ∧ nm.size = 0 ∧ ni + nr + nb = 0) from rfl).trans (decide_eq_false (by omega))
                subst hfb
                clear HRR
                have g2b : decide ((0 : Int) < (nr : Int)) = true := decide_eq_true (by omega)
                have g2c : decide (0 < nr) = true := decide_eq_true (by omega)
                obtain rfl := size0 g0
                subst g1
                as_aux_lemma =>
                  go_wp2_with fail
                  go_meet
                  first | exact ⟨rfl, rfl⟩ | trivial
            · skip
              have hfb : fb = false := by rw [← HFB.out]; exact (show _ = decide (0 ≤ n ∧ n < 1152921504606846976 ∧ nm.size = 0 ∧ ni + nr + nb = 0) from rfl).trans (decide_eq_false (by omega))
              subst hfb
              clear HRR
              have g1b : decide ((0 : Int) < (ni : Int)) = true := decide_eq_true (by omega)
              have g1c : decide (0 < ni) = true := decide_eq_true (by omega)
              obtain rfl := size0 g0
              as_aux_lemma =>
                go_wp2_with fail
                go_meet
                first | exact ⟨rfl, rfl⟩ | trivial
          · skip
            have hfb : fb = false := by rw [← HFB.out]; exact (show _ = decide (0 ≤ n ∧ n < 1152921504606846976 ∧ nm.size = 0 ∧ ni + nr + nb = 0) from rfl).trans (decide_eq_false (by omega))
            subst hfb
            clear HRR
            obtain ⟨g01, g02, g03⟩ := size1 g0
            as_aux_lemma =>
              go_wp2_with fail
              go_meet
              first | exact ⟨rfl, rfl⟩ | trivial
        by_cases k4 : k = 4
        · subst k4
          by_cases g0 : nm.size = 0
          · skip
            by_cases g1 : ni = 0
            · skip
              by_cases g2 : nr = 0
              · skip
                by_cases g3 : nb = 0
                · skip
                  by_cases g4 : 0 ≤ n
                  · skip
                    by_cases g5 : n < 1152921504606846976
                    · skip
                      have hfb : fb = true := by rw [← HFB.out]; exact (show _ = decide (0 ≤ n ∧ n < 1152921504606846976 ∧ nm.size = 0 ∧ ni + nr + nb = 0) from rfl).trans (decide_eq_true (by omega))
                      subst hfb
                      clear HRR
                      obtain rfl := size0 g0
                      subst g1
                      subst g2
                      subst g3
                      have g4b : decide (n < 0) = false := decide_eq_false (by omega)
                      have g5b : decide ((1152921504606846976 : Int) ≤ n) = false := decide_eq_false (by omega)
                      as_aux_lemma =>
                        go_wp2_with fail
                        go_meet
                        first | exact ⟨rfl, rfl⟩ | trivial
                    · skip
                      have hfb : fb = false := by rw [← HFB.out]; exact (show _ = decide (0 ≤ n ∧ n < 1152921504606846976 ∧ nm.size = 0 ∧ ni + nr + nb = 0) from rfl).trans (decide_eq_false (by omega))
                      subst hfb
                      clear HRR
                      have g5b : decide ((1152921504606846976 : Int) ≤ n) = true := decide_eq_true (by omega)
                      obtain rfl := size0 g0
                      subst g1
                      subst g2
                      subst g3
                      have g4b : decide (n < 0) = false := decide_eq_false (by omega)
                      as_aux_lemma =>
                        go_wp2_with fail
                        go_meet
                        first | exact ⟨rfl, rfl⟩ | trivial
                  · skip
                    have hfb : fb = false := by rw [← HFB.out]; exact (show _ = decide (0 ≤ n ∧ n < 1152921504606846976 ∧ nm.size = 0 ∧ ni + nr + nb = 0) from rfl).trans (decide_eq_false (by omega))
                    subst hfb
                    clear HRR
                    have g4b : decide (n < 0) = true := decide_eq_true (by omega)
                    obtain rfl := size0 g0
                    subst g1
                    subst g2
                    subst g3
                    as_aux_lemma =>
                      go_wp2_with fail
                      go_meet
                      first | exact ⟨rfl, rfl⟩ | trivial
                · skip
                  have hfb : fb = false := by rw [← HFB.out]; exact (show _ = decide (0 ≤ n ∧ n < 1152921504606846976 ∧ nm.size = 0 ∧ ni + nr + nb = 0) from rfl).trans (decide_eq_false (by omega))
                  subst hfb
                  clear HRR
                  have g3b : decide ((0 : Int) < (nb : Int)) = true := decide_eq_true (by omega)
                  have g3c : decide (0 < nb) = true := decide_eq_true (by omega)
                  obtain rfl := size0 g0
                  subst g1
                  subst g2
                  as_aux_lemma =>
                    go_wp2_with fail
                    go_meet
                    first | exact ⟨rfl, rfl⟩ | trivial
              · skip
                have hfb : fb = false := by rw [← HFB.out]; exact (show _ = decide (0 ≤ n ∧ n < 1152921504606846976 ∧ nm.size = 0 ∧ ni + nr + nb = 0) from rfl).trans (decide_eq_false (by omega))
                subst hfb
                clear HRR
                have g2b : decide ((0 : Int) < (nr : Int)) = true := decide_eq_true (by omega)
                have g2c : decide (0 < nr) = true := decide_eq_true (by omega)
                obtain rfl := size0 g0
                subst g1
                as_aux_lemma =>
                  go_wp2_with fail
                  go_meet
                  first | exact ⟨rfl, rfl⟩ | trivial
            · skip
              have hfb : fb = false := by rw [← HFB.out]; exact (show _ = decide (0 ≤ n ∧ n < 1152921504606846976 ∧ nm.size = 0 ∧ ni + nr + nb = 0) from rfl).trans (decide_eq_false (by omega))
              subst hfb
              clear HRR
              have g1b : decide ((0 : Int) < (ni : Int)) = true := decide_eq_true (by omega)
              have g1c : decide (0 < ni) = true := decide_eq_true (by omega)
              obtain rfl := size0 g0
              as_aux_lemma =>
                go_wp2_with fail
                go_meet
                first | exact ⟨rfl, rfl⟩ | trivial
          · skip
            have hfb : fb = false := by rw [← HFB.out]; exact (show _ = decide (0 ≤ n ∧ n < 1152921504606846976 ∧ nm.size = 0 ∧ ni + nr + nb = 0) from rfl).trans (decide_eq_false (by omega))
            subst hfb
            clear HRR
            obtain ⟨g01, g02, g03⟩ := size1 g0
            as_aux_lemma =>
              go_wp2_with fail
              go_meet
              first | exact ⟨rfl, rfl⟩ | trivial
        by_cases k5 : k = 5
        · subst k5
          by_cases g0 : n = 0
          · skip
            by_cases g1 : nm.size = 0
            · skip
              by_cases g2 : nr = 0
              · skip
                by_cases g3 : nb = 0
                · skip
                  have hfb : fb = true := by rw [← HFB.out]; exact (show _ = decide (n = 0 ∧ nm.size = 0 ∧ nr + nb = 0) from rfl).trans (decide_eq_true (by omega))
                  subst hfb
                  clear HRR
                  subst g0
                  obtain rfl := size0 g1
                  subst g2
                  subst g3
                  as_aux_lemma =>
                    go_wp2_with fail
                    go_meet
                    first | exact ⟨rfl, rfl⟩ | trivial
                · skip
                  have hfb : fb = false := by rw [← HFB.out]; exact (show _ = decide (n = 0 ∧ nm.size = 0 ∧ nr + nb = 0) from rfl).trans (decide_eq_false (by omega))
                  subst hfb
                  clear HRR
                  have g3b : decide ((0 : Int) < (nb : Int)) = true := decide_eq_true (by omega)
                  have g3c : decide (0 < nb) = true := decide_eq_true (by omega)
                  subst g0
                  obtain rfl := size0 g1
                  subst g2
                  as_aux_lemma =>
                    go_wp2_with fail
                    go_meet
                    first | exact ⟨rfl, rfl⟩ | trivial
              · skip
                have hfb : fb = false := by rw [← HFB.out]; exact (show _ = decide (n = 0 ∧ nm.size = 0 ∧ nr + nb = 0) from rfl).trans (decide_eq_false (by omega))
                subst hfb
                clear HRR
                have g2b : decide ((0 : Int) < (nr : Int)) = true := decide_eq_true (by omega)
                have g2c : decide (0 < nr) = true := decide_eq_true (by omega)
                subst g0
                obtain rfl := size0 g1
                as_aux_lemma =>
                  go_wp2_with fail
                  go_meet
                  first | exact ⟨rfl, rfl⟩ | trivial
            · skip
              have hfb : fb = false := by rw [← HFB.out]; exact (show _ = decide (n = 0 ∧ nm.size = 0 ∧ nr + nb = 0) from rfl).trans (decide_eq_false (by omega))
              subst hfb
              clear HRR
              obtain ⟨g11, g12, g13⟩ := size1 g1
              subst g0
              as_aux_lemma =>
                go_wp2_with fail
                go_meet
                first | exact ⟨rfl, rfl⟩ | trivial
          · skip
            have hfb : fb = false := by rw [← HFB.out]; exact (show _ = decide (n = 0 ∧ nm.size = 0 ∧ nr + nb = 0) from rfl).trans (decide_eq_false (by omega))
            subst hfb
            clear HRR
            have g0b : (n == 0) = false := by simpa using g0
            have g0c : (n != 0) = true := by simpa using g0
            as_aux_lemma =>
              go_wp2_with fail
              go_meet
              first | exact ⟨rfl, rfl⟩ | trivial
        by_cases k6 : k = 6
        · subst k6
          by_cases g0 : n = 0
          · skip
            by_cases g1 : nm.size = 0
            · skip
              by_cases g2 : ni = 0
              · skip
                by_cases g3 : nr = 0
                · skip
                  by_cases g4 : nb = 0
                  · skip
                    have hfb : fb = true := by rw [← HFB.out]; exact (show _ = decide (n = 0 ∧ nm.size = 0 ∧ ni + nr + nb = 0) from rfl).trans (decide_eq_true (by omega))
                    subst hfb
                    clear HRR
                    subst g0
                    obtain rfl := size0 g1
                    subst g2
                    subst g3
                    subst g4
                    as_aux_lemma =>
                      go_wp2_with fail
                      go_meet
                      first | exact ⟨rfl, rfl⟩ | trivial
                  · skip
                    have hfb : fb = false := by rw [← HFB.out]; exact (show _ = decide (n = 0 ∧ nm.size = 0 ∧ ni + nr + nb = 0) from rfl).trans (decide_eq_false (by omega))
                    subst hfb
                    clear HRR
                    have g4b : decide ((0 : Int) < (nb : Int)) = true := decide_eq_true (by omega)
                    have g4c : decide (0 < nb) = true := decide_eq_true (by omega)
                    subst g0
                    obtain rfl := size0 g1
                    subst g2
                    subst g3
                    as_aux_lemma =>
                      go_wp2_with fail
                      go_meet
                      first | exact ⟨rfl, rfl⟩ | trivial
                · skip
                  have hfb : fb = false := by rw [← HFB.out]; exact (show _ = decide (n = 0 ∧ nm.size = 0 ∧ ni + nr + nb = 0) from rfl).trans (decide_eq_false (by omega))
                  subst hfb
                  clear HRR
                  have g3b : decide ((0 : Int) < (nr : Int)) = true := decide_eq_true (by omega)
                  have g3c : decide (0 < nr) = true := decide_eq_true (by omega)
                  subst g0
                  obtain rfl := size0 g1
                  subst g2
                  as_aux_lemma =>
                    go_wp2_with fail
                    go_meet
                    first | exact ⟨rfl, rfl⟩ | trivial
              · skip
                have hfb : fb = false := by rw [← HFB.out]; exact (show _ = decide (n = 0 ∧ nm.size = 0 ∧ ni + nr + nb = 0) from rfl).trans (decide_eq_false (by omega))
                subst hfb
                clear HRR
                have g2b : decide ((0 : Int) < (ni : Int)) = true := decide_eq_true (by omega)
                have g2c : decide (0 < ni) = true := decide_eq_true (by omega)
                subst g0
                obtain rfl := size0 g1
                as_aux_lemma =>
                  go_wp2_with fail
                  go_meet
                  first | exact ⟨rfl, rfl⟩ | trivial
            · skip
              have hfb : fb = false := by rw [← HFB.out]; exact (show _ = decide (n = 0 ∧ nm.size = 0 ∧ ni + nr + nb = 0) from rfl).trans (decide_eq_false (by omega))
              subst hfb
              clear HRR
              obtain ⟨g11, g12, g13⟩ := size1 g1
              subst g0
              as_aux_lemma =>
                go_wp2_with fail
                go_meet
                first | exact ⟨rfl, rfl⟩ | trivial
          · skip
            have hfb : fb = false := by rw [← HFB.out]; exact (show _ = decide (n = 0 ∧ nm.size = 0 ∧ ni + nr + nb = 0) from rfl).trans (decide_eq_false (by omega))
            subst hfb
            clear HRR
            have g0b : (n == 0) = false := by simpa using g0
            have g0c : (n != 0) = true := by simpa using g0
            as_aux_lemma =>
              go_wp2_with fail
              go_meet
              first | exact ⟨rfl, rfl⟩ | trivial
        by_cases k8 : k = 8
        · subst k8
          by_cases g0 : n = 0
          · skip
            by_cases g1 : nm.size = 0
            · skip
              by_cases g2 : ni = 0
              · skip
                by_cases g3 : nr = 0
                · skip
                  have hfb : fb = true := by rw [← HFB.out]; exact (show _ = decide (n = 0 ∧ nm.size = 0 ∧ ni + nr = 0) from rfl).trans (decide_eq_true (by omega))
                  subst hfb
                  clear HRR
                  subst g0
                  obtain rfl := size0 g1
                  subst g2
                  subst g3
                  as_aux_lemma =>
                    go_wp2_with fail
                    go_meet
                    first | exact ⟨rfl, rfl⟩ | trivial
                · skip
                  have hfb : fb = false := by rw [← HFB.out]; exact (show _ = decide (n = 0 ∧ nm.size = 0 ∧ ni + nr = 0) from rfl).trans (decide_eq_false (by omega))
                  subst hfb
                  clear HRR
                  have g3b : decide ((0 : Int) < (nr : Int)) = true := decide_eq_true (by omega)
                  have g3c : decide (0 < nr) = true := decide_eq_true (by omega)
                  subst g0
                  obtain rfl := size0 g1
                  subst g2
                  as_aux_lemma =>
                    go_wp2_with fail
                    go_meet
                    first | exact ⟨rfl, rfl⟩ | trivial
              · skip
                have hfb : fb = false := by rw [← HFB.out]; exact (show _ = decide (n = 0 ∧ nm.size = 0 ∧ ni + nr = 0) from rfl).trans (decide_eq_false (by omega))
                subst hfb
                clear HRR
                have g2b : decide ((0 : Int) < (ni : Int)) = true := decide_eq_true (by omega)
                have g2c : decide (0 < ni) = true := decide_eq_true (by omega)
                subst g0
                obtain rfl := size0 g1
                as_aux_lemma =>
                  go_wp2_with fail
                  go_meet
                  first | exact ⟨rfl, rfl⟩ | trivial
            · skip
              have hfb : fb = false := by rw [← HFB.out]; exact (show _ = decide (n = 0 ∧ nm.size = 0 ∧ ni + nr = 0) from rfl).trans (decide_eq_false (by omega))
              subst hfb
              clear HRR
              obtain ⟨g11, g12, g13⟩ := size1 g1
              subst g0
              as_aux_lemma =>
                go_wp2_with fail
                go_meet
                first | exact ⟨rfl, rfl⟩ | trivial
          · skip
            have hfb : fb = false := by rw [← HFB.out]; exact (show _ = decide (n = 0 ∧ nm.size = 0 ∧ ni + nr = 0) from rfl).trans (decide_eq_false (by omega))
            subst hfb
            clear HRR
            have g0b : (n == 0) = false := by simpa using g0
            have g0c : (n != 0) = true := by simpa using g0
            as_aux_lemma =>
              go_wp2_with fail
              go_meet
              first | exact ⟨rfl, rfl⟩ | trivial
        by_cases k7 : k = 7
        · subst k7
          by_cases g0 : n = 0
          · skip
            by_cases g1 : nm.size = 0
            · skip
              by_cases g2 : nb = 0
              · skip
                by_cases g3 : 0 < ni
                · skip
                  by_cases r1 : 1 < nr
                  · skip
                    have hfb : fb = false := by rw [← HFB.out]; exact (show _ = decide (ni ≠ 0 ∧ nr ≤ 1 ∧ (nr = 1 → rk ≠ 7 ∧ rk ≠ 6) ∧ n = 0 ∧ nm.size = 0 ∧ nb = 0) from rfl).trans (decide_eq_false (by omega))
                    subst hfb
                    clear HRR
                    have r1b : decide ((1 : Int) < (nr : Int)) = true := decide_eq_true (by omega)
                    subst g0
                    obtain rfl := size0 g1
                    subst g2
                    have g3b : decide ((0 : Int) < (ni : Int)) = true := decide_eq_true (by omega)
                    have g3c : decide (0 < ni) = true := decide_eq_true (by omega)
                    as_aux_lemma =>
                      go_wp2_with fail
                      go_meet
                      first | exact ⟨rfl, rfl⟩ | trivial
                  · by_cases r2 : nr = 1
                    · obtain ⟨rg, ro, rfl, hrc⟩ := HRR.out r2
                      have hr0 := S.out.drop.cellIn hrc
                      by_cases r3 : rk = 7
                      · skip
                        have hfb : fb = false := by rw [← HFB.out]; exact (show _ = decide (ni ≠ 0 ∧ nr ≤ 1 ∧ (nr = 1 → rk ≠ 7 ∧ rk ≠ 6) ∧ n = 0 ∧ nm.size = 0 ∧ nb = 0) from rfl).trans (decide_eq_false (by omega))
                        subst hfb
                        clear HRR hrc
                        subst r3 r2
                        subst g0
                        obtain rfl := size0 g1
                        subst g2
                        have g3b : decide ((0 : Int) < (ni : Int)) = true := decide_eq_true (by omega)
                        have g3c : decide (0 < ni) = true := decide_eq_true (by omega)
                        as_aux_lemma =>
                          go_wp2_with fail
                          go_meet
                          first | exact ⟨rfl, rfl⟩ | trivial
                      · by_cases r4 : rk = 6
                        · skip
                          have hfb : fb = false := by rw [← HFB.out]; exact (show _ = decide (ni ≠ 0 ∧ nr ≤ 1 ∧ (nr = 1 → rk ≠ 7 ∧ rk ≠ 6) ∧ n = 0 ∧ nm.size = 0 ∧ nb = 0) from rfl).trans (decide_eq_false (by omega))
                          subst hfb
                          clear HRR hrc
                          subst r4 r2
                          subst g0
                          obtain rfl := size0 g1
                          subst g2
                          have g3b : decide ((0 : Int) < (ni : Int)) = true := decide_eq_true (by omega)
                          have g3c : decide (0 < ni) = true := decide_eq_true (by omega)
                          as_aux_lemma =>
                            go_wp2_with fail
                            go_meet
                            first | exact ⟨rfl, rfl⟩ | trivial
                        · have r3b : (rk == 7) = false := by simpa using r3
                          have r4b : (rk == 6) = false := by simpa using r4
                          have hfb : fb = true := by rw [← HFB.out]; exact (show _ = decide (ni ≠ 0 ∧ nr ≤ 1 ∧ (nr = 1 → rk ≠ 7 ∧ rk ≠ 6) ∧ n = 0 ∧ nm.size = 0 ∧ nb = 0) from rfl).trans (decide_eq_true (by omega))
                          subst hfb
                          clear HRR hrc r3 r4 r1
                          subst r2
                          subst g0
                          obtain rfl := size0 g1
                          subst g2
                          have g3b : decide ((0 : Int) < (ni : Int)) = true := decide_eq_true (by omega)
                          have g3c : decide (0 < ni) = true := decide_eq_true (by omega)
                          as_aux_lemma =>
                            go_wp2_with fail
                            go_meet
                            first | exact ⟨rfl, rfl⟩ | trivial
                    · have r5 : nr = 0 := by omega
                      have hfb : fb = true := by rw [← HFB.out]; exact (show _ = decide (ni ≠ 0 ∧ nr ≤ 1 ∧ (nr = 1 → rk ≠ 7 ∧ rk ≠ 6) ∧ n = 0 ∧ nm.size = 0 ∧ nb = 0) from rfl).trans (decide_eq_true (by omega))
                      subst hfb
                      clear HRR r1 r2
                      subst r5
                      subst g0
                      obtain rfl := size0 g1
                      subst g2
                      have g3b : decide ((0 : Int) < (ni : Int)) = true := decide_eq_true (by omega)
                      have g3c : decide (0 < ni) = true := decide_eq_true (by omega)
                      as_aux_lemma =>
                        go_wp2_with fail
                        go_meet
                        first | exact ⟨rfl, rfl⟩ | trivial
                · skip
                  have hfb : fb = false := by rw [← HFB.out]; exact (show _ = decide (ni ≠ 0 ∧ nr ≤ 1 ∧ (nr = 1 → rk ≠ 7 ∧ rk ≠ 6) ∧ n = 0 ∧ nm.size = 0 ∧ nb = 0) from rfl).trans (decide_eq_false (by omega))
                  subst hfb
                  clear HRR
                  obtain rfl : ni = 0 := by omega
                  subst g0
                  obtain rfl := size0 g1
                  subst g2
                  as_aux_lemma =>
                    go_wp2_with fail
                    go_meet
                    first | exact ⟨rfl, rfl⟩ | trivial
              · skip
                have hfb : fb = false := by rw [← HFB.out]; exact (show _ = decide (ni ≠ 0 ∧ nr ≤ 1 ∧ (nr = 1 → rk ≠ 7 ∧ rk ≠ 6) ∧ n = 0 ∧ nm.size = 0 ∧ nb = 0) from rfl).trans (decide_eq_false (by omega))
                subst hfb
                clear HRR
                have g2b : decide ((0 : Int) < (nb : Int)) = true := decide_eq_true (by omega)
                have g2c : decide (0 < nb) = true := decide_eq_true (by omega)
                subst g0
                obtain rfl := size0 g1
                as_aux_lemma =>
                  go_wp2_with fail
                  go_meet
                  first | exact ⟨rfl, rfl⟩ | trivial
            · skip
              have hfb : fb = false := by rw [← HFB.out]; exact (show _ = decide (ni ≠ 0 ∧ nr ≤ 1 ∧ (nr = 1 → rk ≠ 7 ∧ rk ≠ 6) ∧ n = 0 ∧ nm.size = 0 ∧ nb = 0) from rfl).trans (decide_eq_false (by omega))
              subst hfb
              clear HRR
              obtain ⟨g11, g12, g13⟩ := size1 g1
              subst g0
              as_aux_lemma =>
                go_wp2_with fail
                go_meet
                first | exact ⟨rfl, rfl⟩ | trivial
          · skip
            have hfb : fb = false := by rw [← HFB.out]; exact (show _ = decide (ni ≠ 0 ∧ nr ≤ 1 ∧ (nr = 1 → rk ≠ 7 ∧ rk ≠ 6) ∧ n = 0 ∧ nm.size = 0 ∧ nb = 0) from rfl).trans (decide_eq_false (by omega))
            subst hfb
            clear HRR
            have g0b : (n == 0) = false := by simpa using g0
            have g0c : (n != 0) = true := by simpa using g0
            as_aux_lemma =>
              go_wp2_with fail
              go_meet
              first | exact ⟨rfl, rfl⟩ | trivial
        have hfb : fb = false := by rw [← HFB.out]; unfold fldB; simp [k1, k2, k3, k4, k5, k6, k7, k8]
        subst hfb
        have q1 : (k == 1) = false := by simpa using k1
        have q2 : (k == 2) = false := by simpa using k2
        have q3 : (k == 3) = false := by simpa using k3
        have q4 : (k == 4) = false := by simpa using k4
        have q5 : (k == 5) = false := by simpa using k5
        have q6 : (k == 6) = false := by simpa using k6
        have q7 : (k == 7) = false := by simpa using k7
        have q8 : (k == 8) = false := by simpa using k8
        clear k1 k2 k3 k4 k5 k6 k7 k8 HRR
        as_aux_lemma =>
          go_wp2_with fail
          go_meet
          first | exact ⟨rfl, rfl⟩ | trivial
      case rest =>
        obtain ⟨rfl, rfl⟩ := hcut
        clear HRR b4
        cases fb with
        | false =>
          have hcr : cr = ((p + 1, b'), some (p, 1)) := by
            rw [← HCR.out, chk_eq]
            have : chk0 d (.mk k n nm is rs bs) p b = some (p, 1) := by unfold chk0; rw [if_neg (by rw [← HB.out]; have := HLF2.out; omega), HFL.out, HFB.out, if_pos rfl]
            rw [this, HB.out]
          have HC2 := hid hcr
          clear hcr
          go_wp2_with fail
          refine (fail_any S.out p 1).mono ?_
          rintro e w1 ⟨x, h', rfl, le, he, s1⟩
          have HLE := hid le
          have HE := hid he
          have S2 := hid s1
          clear le he s1 S e0 t0 t1 t2 t3 t4 t5
          go_wp2_with fail
          refine bodyPost_ret (v := .tuple #[]) (by simp [results, Tryd.results37, go_sem]) rfl ⟨x, h', rfl, HLE.out, ?_, ?_⟩
          · rw [HC2.out]; exact HE.out
          · rw [HC2.out]
            have s2 := S2.out.rot3.drop
            rw [← HLF2.out] at s2
            exact s2
        | true =>
          have h0 : chk0 d (.mk k n nm is rs bs) p b = none := by unfold chk0; rw [if_neg (by rw [← HB.out]; have := HLF2.out; omega), HFL.out, HFB.out, if_neg (by decide)]
          have hca : cr = chkL (d + 1) (is ++ rs) (p + 1) b' := by rw [← HCR.out, chk_app h0, HB.out]; rfl
          have HCA := hid hca
          have hsm : (p + 1) + b' ≤ 65536 := by have := HLF2.out; omega
          have HXI : Hid (∀ x ∈ is, LookC x ∧ TOk x) := hid fun x hx => ⟨IH1.out x hx, HF.out.si x hx⟩
          have HXR : Hid (∀ x ∈ rs, LookC x ∧ TOk x) := hid fun x hx => ⟨IH2.out x hx, HF.out.sr x hx⟩
          have hd200 : d ≤ 200 := by omega
          obtain ⟨ls, HLS⟩ : ∃ ls, Hid (is ++ rs = ls) := ⟨_, hid rfl⟩
          rw [HLS.out] at HCA
          clear h0 hca e0 t0 t1 t2 t3 t4 t5 hd1 hd2
          go_wp2_with fail
          go_loopw [13] (fun iv wr => ∃ (i : Nat) (s : Nat × Nat) (e : Option (Nat × Int)) (x : Option Addr) (h' : Nat → Option Obj), i ≤ ni ∧ iv = .int .i64 i ∧ Hid (chkL (d + 1) (ls.take i) (p + 1) b' = (s, e)) ∧ Hid (Le h h') ∧ Hid (XOf h' x e) ∧ Hid (Sat W wr (blk l (.cells #[.int .i64 (65536 - ((s.1 : Int) + s.2)), .int .i64 s.1, .pointer x] 70 (0, 0)) :: arch h' :: blk w.heap.size (.cells #[.int .i64 k, .int .i64 n, .string nm, .slice ia ni ic, .slice ra nr rc, .slice ba nb bc] 25 (0, 0)) :: L))) (fun iv _ => ni - (intOf iv).toNat)
          case atStart => exact ⟨0, (p + 1, b'), none, none, h, Nat.zero_le _, rfl, hid rfl, hid (Le.refl _), hid rfl, hid (by have := S.out; rw [← HLF2.out] at this; simpa using this)⟩
          case round =>
            obtain ⟨i, s, e, x, h', hi, rfl, HCK, HLE, HX, S2⟩ := hrel
            clear S
            have t3 : wr.cell? ⟨w.heap.size, 3, none⟩ = some (.slice ia ni ic) := S2.out.rot3.cell 3
            by_cases hlt : i < ni
            · obtain ⟨x1, hx1⟩ : ∃ x1, is[i]? = some x1 := ⟨_, List.getElem?_eq_getElem (by have := HNI.out; omega)⟩
              obtain ⟨g, off, xs, rfl, hc, hin⟩ := (HQ1.out.mono HLE.out).get hx1
              have hin0 := hin
              obtain ⟨ia', ic', ra', rc', ba', bc', rfl, _⟩ := hin.vals
              have k0 := S2.out.drop.cellIn (hc 0 _ rfl)
              have k1 := S2.out.drop.cellIn (hc 1 _ rfl)
              have k2 := S2.out.drop.cellIn (hc 2 _ rfl)
              have k3 := S2.out.drop.cellIn (hc 3 _ rfl)
              have k4 := S2.out.drop.cellIn (hc 4 _ rfl)
              have k5 := S2.out.drop.cellIn (hc 5 _ rfl)
              rw [Nat.zero_add] at k0 k1 k2 k3 k4 k5
              rw [Nat.add_zero] at k0
              have hlx : ls[i]? = some x1 := by rw [← HLS.out, List.getElem?_append_left (by have := HNI.out; omega)]; exact hx1
              have hlk := look_next (HXI.out x1 (List.mem_of_getElem? hx1)).1 HCK.out hsm hlx HX.out S2.out hin0 (by omega : d + 1 ≤ 201)
              rw [show (((d + 1 : Nat)) : Int) = (d : Int) + 1 by omega] at hlk
              have HLK := hid hlk
              unfold tVals at HLK
              clear hc hin hin0 hx1 hlx hlk
              go_wp2_with fail
              refine HLK.out.mono ?_
              rintro e w3 ⟨s2, e2, x2, h2, rfl, hck2, le, hxo, s3⟩
              have HLE2 := hid (HLE.out.trans le)
              have HCK2 := hid hck2
              have HX2 := hid hxo
              have S3 := hid s3
              clear le hck2 hxo s3 S2 HLK k0 k1 k2 k3 k4 k5 t3
              go_wp2_with fail
              go_roundw
              case rel => exact ⟨i + 1, s2, e2, x2, h2, by omega, by go_num, HCK2, HLE2, HX2, S3⟩
              case measure => simp [intOf]; omega
            · obtain rfl : i = ni := by omega
              go_wp2_with fail
              clear t3
              go_loopw [14] (fun iv wr => ∃ (j : Nat) (s : Nat × Nat) (e : Option (Nat × Int)) (x : Option Addr) (h' : Nat → Option Obj), j ≤ nr ∧ iv = .int .i64 j ∧ Hid (chkL (d + 1) (ls.take (i + j)) (p + 1) b' = (s, e)) ∧ Hid (Le h h') ∧ Hid (XOf h' x e) ∧ Hid (Sat W wr (blk l (.cells #[.int .i64 (65536 - ((s.1 : Int) + s.2)), .int .i64 s.1, .pointer x] 70 (0, 0)) :: arch h' :: blk w.heap.size (.cells #[.int .i64 k, .int .i64 n, .string nm, .slice ia i ic, .slice ra nr rc, .slice ba nb bc] 25 (0, 0)) :: L))) (fun iv _ => nr - (intOf iv).toNat)
              case atStart => exact ⟨0, s, e, x, h', Nat.zero_le _, rfl, HCK, HLE, HX, S2⟩
              case round =>
                obtain ⟨j, s, e, x, h', hj, rfl, HCK, HLE, HX, S2⟩ := hrel
                have t4 : wr.cell? ⟨w.heap.size, 4, none⟩ = some (.slice ra nr rc) := S2.out.rot3.cell 4
                by_cases hlt : j < nr
                · obtain ⟨x1, hx1⟩ : ∃ x1, rs[j]? = some x1 := ⟨_, List.getElem?_eq_getElem (by have := HNR.out; omega)⟩
                  obtain ⟨g, off, xs, rfl, hc, hin⟩ := (HQ2.out.mono HLE.out).get hx1
                  have hin0 := hin
                  obtain ⟨ia', ic', ra', rc', ba', bc', rfl, _⟩ := hin.vals
                  have k0 := S2.out.drop.cellIn (hc 0 _ rfl)
                  have k1 := S2.out.drop.cellIn (hc 1 _ rfl)
                  have k2 := S2.out.drop.cellIn (hc 2 _ rfl)
                  have k3 := S2.out.drop.cellIn (hc 3 _ rfl)
                  have k4 := S2.out.drop.cellIn (hc 4 _ rfl)
                  have k5 := S2.out.drop.cellIn (hc 5 _ rfl)
                  rw [Nat.zero_add] at k0 k1 k2 k3 k4 k5
                  rw [Nat.add_zero] at k0
                  have hlx : ls[i + j]? = some x1 := by rw [← HLS.out, List.getElem?_append_right (by have := HNI.out; omega), show i + j - is.length = j by have := HNI.out; omega]; exact hx1
                  have hlk := look_next (HXR.out x1 (List.mem_of_getElem? hx1)).1 HCK.out hsm hlx HX.out S2.out hin0 (by omega : d + 1 ≤ 201)
                  rw [show (((d + 1 : Nat)) : Int) = (d : Int) + 1 by omega] at hlk
                  have HLK := hid hlk
                  unfold tVals at HLK
                  clear hc hin hin0 hx1 hlx hlk
                  go_wp2_with fail
                  refine HLK.out.mono ?_
                  rintro e w3 ⟨s2, e2, x2, h2, rfl, hck2, le, hxo, s3⟩
                  have HLE2 := hid (HLE.out.trans le)
                  have HCK2 := hid hck2
                  have HX2 := hid hxo
                  have S3 := hid s3
                  clear le hck2 hxo s3 S2 HLK k0 k1 k2 k3 k4 k5 t4
                  go_wp2_with fail
                  go_roundw
                  case rel => exact ⟨j + 1, s2, e2, x2, h2, by omega, by go_num, HCK2, HLE2, HX2, S3⟩
                  case measure => simp [intOf]; omega
                · obtain rfl : j = nr := by omega
                  have hfin : cr = (s, e) := by
                    rw [HCA.out, ← HCK.out, List.take_of_length_le (by rw [← HLS.out, List.length_append]; have := HNI.out; have := HNR.out; omega)]
                  have HFIN := hid hfin
                  clear hfin
                  go_wp2_with fail
                  go_end0
                  rw [HFIN.out]
                  exact ⟨x, h', rfl, HLE.out, HX.out, S2.out.rot3.drop⟩
theorem look_t (t : T) : TOk t → LookC t := by
  induction t using T.ind with
  | h k n nm is rs bs ih1 ih2 =>
    intro hok
    have hf := hok.fit
    exact look_step k n nm is rs bs hok (fun x hx => ih1 x hx (hf.si x hx)) (fun x hx => ih2 x hx (hf.sr x hx))
section
variable {W w : World} {L : List HP} {h : Nat → Option Obj}
theorem xright_t (S : Sat W w (arch h :: L)) (t : T) (vs : List Value) (hin : TIn h t vs) (hok : TOk t) :
    Calls Tryd.prog 17 #[.agg vs.toArray] w fun e w' => ∃ x h', e = .returned (.pointer x) ∧ Le h h' ∧ XOf h' x (rightOf t) ∧ Sat W w' (arch h' :: L) := by
  obtain ⟨ia, ic, ra, rc, ba, bc, rfl, _⟩ := hin.vals
  have htc := look_t t hok W _ L h (tVals t ia ic ra rc ba bc) (w.heap.size + 1) 0 0 1 ((S.alloc' (.cells (tVals t ia ic ra rc ba bc).toArray 25)).allocAt (k := w.heap.size + 1) (.cells #[.int .i64 (65536 - (((0 : Nat) : Int) + (0 : Nat))), .int .i64 (0 : Nat), .pointer none] 70) (by simp)) hin (by omega) (by omega)
  have HTC := hid htc
  unfold tVals at HTC ⊢
  clear S hin htc
  go_enter Tryd.func17, Tryd.ntmps17
  go_wp2_with fail
  refine HTC.out.mono ?_
  rintro e w3 ⟨x, h3, rfl, le, he, s3⟩
  have HLE3 := hid le
  have HE := hid he
  have S6 := hid s3
  have c2 : w3.cell? ⟨w.heap.size + 1, 2, none⟩ = some (.pointer x) := s3.cell 2
  clear le he s3 HTC
  go_wp2_with fail
  go_ret
  exact ⟨x, h3, rfl, HLE3.out, HE.out, S6.out.drop⟩
end
#print axioms xright_t
end Go.Proofs.YteaabbghnfideaaDoor
