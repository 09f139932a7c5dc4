/-
  tree.Words, and the document's: how many words a term wants.
-/
import Derived.Test.YteaabbghnfideaaDoorTRight
import Derived.Deep.LoopGhost
import Derived.IntWalk
import Derived.Deep.DeepCutAuto
import Derived.Deep.CutBlock
namespace Go.Proofs.YteaabbghnfideaaDoor
open Go.RowKit
set_option maxHeartbeats 2000000

/-! ### terms all of whose parts have just their fields -/
mutual
def TFl : T → Prop
  | .mk k n nm is rs bs => flds (.mk k n nm is rs bs) = true ∧ LFl is ∧ LFl rs
def LFl : List T → Prop
  | [] => True
  | t :: ts => TFl t ∧ LFl ts
end
theorem TFl.eq {t : T} : TFl t ↔ flds t = true ∧ LFl t.is ∧ LFl t.rs := by
  cases t with
  | mk k n nm is rs bs => unfold TFl; exact Iff.rfl
theorem LFl.mem : ∀ {ts : List T} {t : T}, LFl ts → t ∈ ts → TFl t
  | [], _, _, h => by cases h
  | x :: ts, t, q, h => by
    unfold LFl at q
    rcases List.mem_cons.1 h with rfl | h
    · exact q.1
    · exact LFl.mem q.2 h
theorem LFl.of : ∀ {ts : List T}, (∀ t ∈ ts, TFl t) → LFl ts
  | [], _ => by simp [LFl]
  | t :: ts, f => by unfold LFl; exact ⟨f t (by simp), LFl.of fun x hx => f x (by simp [hx])⟩
theorem chk_fl (t : T) : ∀ (d p b : Nat) (s : Nat × Nat), chk d t p b = (s, none) → TFl t := by
  have key : ∀ (ts : List T), (∀ t ∈ ts, ∀ (d p b : Nat) (s : Nat × Nat), chk d t p b = (s, none) → TFl t) → ∀ (d p b : Nat) (s : Nat × Nat), chkL d ts p b = (s, none) → LFl ts := by
    intro ts
    induction ts with
    | nil => intro _ d p b s _; simp [LFl]
    | cons x xs ih =>
      intro f d p b s q
      rw [chkL] at q
      cases hx : chk d x p b with
      | mk s1 e =>
        rw [hx] at q
        cases e with
        | some e => simp at q
        | none =>
          unfold LFl
          exact ⟨f x (by simp) d p b s1 hx, ih (fun t ht => f t (by simp [ht])) d s1.1 s1.2 s q⟩
  induction t using T.ind with
  | h k n nm is rs bs ih1 ih2 =>
    intro d p b s q
    rw [chk_eq] at q
    cases h0 : chk0 d (.mk k n nm is rs bs) p b with
    | some e => rw [h0] at q; simp at q
    | none =>
      rw [h0] at q
      simp only at q
      have hf : flds (.mk k n nm is rs bs) = true := by
        unfold chk0 at h0
        split at h0
        · simp at h0
        · split at h0
          · simp at h0
          · rename_i h; simpa using h
      cases h1 : chkL (d + 1) (T.mk k n nm is rs bs).is (p + 1) (b + addB (.mk k n nm is rs bs)) with
      | mk s1 e =>
        rw [h1] at q
        cases e with
        | some e => simp at q
        | none => exact TFl.eq.2 ⟨hf, key is ih1 (d + 1) _ _ s1 h1, key rs ih2 (d + 1) _ _ s q⟩
theorem right_fl {t : T} (h : rightOf t = none) : TFl t := by
  unfold rightOf at h
  cases hc : chk 1 t 0 0 with
  | mk s e =>
    rw [hc] at h
    simp only at h
    subst h
    exact chk_fl t 1 0 0 s hc

/-! ### how many words -/
def w0 (t : T) : Int := if t.k = 1 then (if t.n < -1152921504606846976 ∨ 1152921504606846976 ≤ t.n then 2 else 0) else if t.k = 8 then 4 else if t.k = 5 then 1 + t.is.length else if t.k = 7 then 3 * t.is.length else 0
mutual
def wds : T → Int
  | .mk k n nm is rs bs => w0 (.mk k n nm is rs bs) + (wdsL is + wdsL rs)
def wdsL : List T → Int
  | [] => 0
  | t :: ts => wds t + wdsL ts
end
theorem wds_eq (t : T) : wds t = w0 t + (wdsL t.is + wdsL t.rs) := by cases t with | mk k n nm is rs bs => rw [wds]; rfl
theorem wdsL_snoc : ∀ (ts : List T) (x : T), wdsL (ts ++ [x]) = wdsL ts + wds x
  | [], x => by simp [wdsL]
  | t :: ts, x => by rw [List.cons_append, wdsL, wdsL, wdsL_snoc ts x]; omega
theorem wdsL_step {ts : List T} {i : Nat} {x : T} (hx : ts[i]? = some x) : wdsL (ts.take (i + 1)) = wdsL (ts.take i) + wds x := by
  rw [List.take_add_one, hx]
  exact wdsL_snoc _ _
theorem wrapS (x y : Int) : IntKind.i64.wrap (IntKind.i64.wrap x + IntKind.i64.wrap y) = IntKind.i64.wrap (x + y) := by
  have h := IntKind.wrap_i64
  simp only [h]
  omega
theorem wrapS64 (x y : Int) : wrap64 (wrap64 x + wrap64 y) = IntKind.i64.wrap (x + y) := by
  rw [← IntWalk.i64_left, ← IntWalk.i64_left, ← IntWalk.i64_left, wrapS]
def WordsC (f : Nat) (t : T) : Prop := ∀ (W w : World) (L : List HP) (h : Nat → Option Obj) (vs : List Value), Sat W w (arch h :: L) → TIn h t vs →
  Calls Tryd.prog f #[.agg vs.toArray] w fun e w' => e = .returned (.int .i64 (IntKind.i64.wrap (wds t))) ∧ Sat W w' (arch h :: L)
theorem fl0 {t : T} (h : flds t = true) (hk : t.k = 1 ∨ t.k = 8) : t.is = [] ∧ t.rs = [] := by
  cases t with
  | mk k n nm is rs bs =>
    unfold flds fldB at h
    simp only [T.k, T.n, T.nm, T.is, T.rs, T.bs] at h hk ⊢
    rcases hk with rfl | rfl
    all_goals simp at h
    all_goals simp_all
set_option maxRecDepth 100000 in
theorem words_step (t : T) (hok : TOk t) (hfl : TFl t) (ih1 : ∀ x ∈ t.is, WordsC 49 x) (ih2 : ∀ x ∈ t.rs, WordsC 49 x) : WordsC 49 t := by
  intro W w L h vs S hin
  have HF := hid hok.fit
  obtain ⟨ia, ic, ra, rc, ba, bc, rfl, q1, q2, q3, q4⟩ := hin.vals
  have hfe := TFl.eq.1 hfl
  obtain ⟨ni, HNI⟩ : ∃ ni, Hid (t.is.length = ni) := ⟨_, hid rfl⟩
  obtain ⟨nr, HNR⟩ : ∃ nr, Hid (t.rs.length = nr) := ⟨_, hid rfl⟩
  obtain ⟨nb, HNB⟩ : ∃ nb, Hid (t.bs.length = nb) := ⟨_, hid rfl⟩
  obtain ⟨k, HK⟩ : ∃ k, Hid (t.k = k) := ⟨_, hid rfl⟩
  obtain ⟨n, HN⟩ : ∃ n, Hid (t.n = n) := ⟨_, hid rfl⟩
  have b1 : ni ≤ 1353245080300 := by rw [← HNI.out]; exact HF.out.is
  have b2 : nr ≤ 1353245080300 := by rw [← HNR.out]; exact HF.out.rs
  have HQ1 := hid q1
  have HQ2 := hid q2
  have IH1 := hid ih1
  have IH2 := hid ih2
  have HFE := hid hfe
  have HFL := hid hfl
  have hwe := wds_eq t
  obtain ⟨wt, HW0⟩ : ∃ wt, Hid (wds t = wt) := ⟨_, hid rfl⟩
  have HWE := hid hwe
  have s1 := (S.allocAt (k := w.heap.size) (.cells #[.int .i64 k, .int .i64 n, .string t.nm, .slice ia ni ic, .slice ra nr rc, .slice ba nb bc] 25) rfl)
  have hw0 : w0 t = if k = 1 then (if n < -1152921504606846976 ∨ 1152921504606846976 ≤ n then 2 else 0) else if k = 8 then 4 else if k = 5 then 1 + (ni : Int) else if k = 7 then 3 * (ni : Int) else 0 := by
    unfold w0
    rw [HK.out, HN.out, HNI.out]
  have H0 := hid hw0
  unfold tVals
  rw [HNI.out, HNR.out, HNB.out, HK.out, HN.out, HW0.out]
  have S1 := hid s1
  have t0 : World.cell? _ ⟨w.heap.size, 0, none⟩ = some (.int .i64 k) := s1.cell 0
  have t1 : World.cell? _ ⟨w.heap.size, 1, none⟩ = some (.int .i64 n) := s1.cell 1
  have t3 : World.cell? _ ⟨w.heap.size, 3, none⟩ = some (.slice ia ni ic) := s1.cell 3
  have t4 : World.cell? _ ⟨w.heap.size, 4, none⟩ = some (.slice ra nr rc) := s1.cell 4
  clear S hin hok q1 q2 q3 ih1 ih2 s1 hfe hfl hwe hw0
  go_enter Tryd.func49, Tryd.ntmps49
  by_cases k8 : k = 8
  · subst k8
    have hz := fl0 HFE.out.1 (.inr HK.out)
    have hwt : wt = 4 := by
      rw [← HW0.out, HWE.out, H0.out, hz.1, hz.2]
      simp [wdsL]
    subst hwt
    go_wp2_with fail
    go_ret
    exact ⟨rfl, S1.out.drop⟩
  · by_cases kb : k = 1 ∧ (n < -1152921504606846976 ∨ 1152921504606846976 ≤ n)
    · obtain ⟨rfl, hn⟩ := kb
      have hz := fl0 HFE.out.1 (.inl HK.out)
      have hwt : wt = 2 := by
        rw [← HW0.out, HWE.out, H0.out, hz.1, hz.2]
        simp [wdsL, hn]
      subst hwt
      rcases hn with hn | hn
      · go_wp2_with fail
        go_ret
        exact ⟨rfl, S1.out.drop⟩
      · have hn' : ¬ n < -1152921504606846976 := by omega
        go_wp2_with fail
        go_ret
        exact ⟨rfl, S1.out.drop⟩
    · obtain ⟨v0, HV0⟩ : ∃ v0, Hid (w0 t = v0) := ⟨_, hid rfl⟩
      have h0 := H0.out
      rw [HV0.out] at h0
      go_upto_block 0 with fail
      go_cut [3] (fun v wc => v = .int .i64 v0 ∧ Hid (Sat W wc (blk w.heap.size (.cells #[.int .i64 k, .int .i64 n, .string t.nm, .slice ia ni ic, .slice ra nr rc, .slice ba nb bc] 25 (0, 0)) :: arch h :: L)))
      case first =>
        by_cases k1 : k = 1
        · subst k1
          have hn : ¬ (n < -1152921504606846976 ∨ 1152921504606846976 ≤ n) := fun q => kb ⟨rfl, q⟩
          have hn1 : ¬ n < -1152921504606846976 := fun q => hn (.inl q)
          have hn2 : ¬ 1152921504606846976 ≤ n := fun q => hn (.inr q)
          rw [if_pos rfl, if_neg hn] at h0
          subst h0
          clear kb hn
          go_wp2_with fail
          go_meet
          exact ⟨rfl, S1⟩
        · by_cases k5 : k = 5
          · subst k5
            obtain rfl : v0 = 1 + ni := h0
            have hwr : IntKind.i64.wrap (1 + (ni : Int)) = 1 + (ni : Int) := IntWalk.i64_in _ (by omega)
            go_wp2_with fail
            go_meet
            exact ⟨rfl, S1⟩
          · by_cases k7 : k = 7
            · subst k7
              obtain rfl : v0 = 3 * ni := h0
              have hwr : IntKind.i64.wrap (3 * (ni : Int)) = 3 * (ni : Int) := IntWalk.i64_in _ (by omega)
              go_wp2_with fail
              go_meet
              exact ⟨rfl, S1⟩
            · rw [if_neg k1, if_neg k8, if_neg k5, if_neg k7] at h0
              subst h0
              go_wp2_with fail
              go_meet
              exact ⟨rfl, S1⟩
      case rest =>
        obtain ⟨rfl, S⟩ := hcut
        clear S1 t0 t1 t3 t4
        have t3 : wc.cell? ⟨w.heap.size, 3, none⟩ = some (.slice ia ni ic) := S.out.cell 3
        have t4 : wc.cell? ⟨w.heap.size, 4, none⟩ = some (.slice ra nr rc) := S.out.cell 4
        have S3 := hid ((S.out.drop.allocAt (k := wc.heap.size) (.cells #[.slice ia ni ic, .slice ra nr rc] 22) rfl).swap)
        clear S
        have hv0 : IntKind.i64.wrap v0 = v0 := by
          refine IntWalk.i64_in _ ?_
          rw [h0]
          repeat' split
          all_goals omega
        have hV0 := hid hv0
        clear h0 hv0
        obtain ⟨lb, HLB⟩ : ∃ lb, Hid (wc.heap.size = lb) := ⟨_, hid rfl⟩
        go_wp2_with fail
        have S4 : Hid (Sat W _ (arch h :: blk lb (.cells #[.slice ia ni ic, .slice ra nr rc] 22 (0, 0)) :: L)) := hid (by rw [← HLB.out]; exact S3.out)
        rw [HLB.out]
        go_loopw [3, 40] (fun nv jv wr => ∃ (j : Nat) (x : Int), j ≤ 2 ∧ jv = .int .i64 j ∧ nv = .int .i64 (IntKind.i64.wrap x) ∧ Hid (x = v0 + (if j = 0 then 0 else if j = 1 then wdsL t.is else wdsL t.is + wdsL t.rs)) ∧ Hid (Sat W wr (arch h :: blk lb (.cells #[.slice ia ni ic, .slice ra nr rc] 22 (0, 0)) :: L))) (fun _ jv _ => 2 - (intOf jv).toNat)
        case atStart => exact ⟨0, v0, by omega, rfl, by rw [hV0.out], hid (by simp), S4⟩
        case round =>
          obtain ⟨j, x, hj, rfl, rfl, HX, S⟩ := hrel
          clear S3 S4
          by_cases hlt : j < 2
          · obtain ⟨ls, la, ln, lc, hcell, HLN, HLI, HIH, hlb, HXX⟩ : ∃ (ls : List T) (la : Option Addr) (ln lc : Nat), (#[.slice ia ni ic, .slice ra nr rc] : Array Value)[j]? = some (.slice la ln lc) ∧ Hid (ls.length = ln) ∧ Hid (LIn h ls la 0) ∧ Hid (∀ y ∈ ls, WordsC 49 y) ∧ ln ≤ 1353245080300 ∧ Hid (x + wdsL ls = v0 + (if j + 1 = 0 then 0 else if j + 1 = 1 then wdsL t.is else wdsL t.is + wdsL t.rs)) := by
              match j, hlt, HX.out with
              | 0, _, hx =>
                refine ⟨t.is, ia, ni, ic, rfl, HNI, HQ1, hid IH1.out, b1, hid ?_⟩
                rw [hx]; simp
              | 1, _, hx =>
                refine ⟨t.rs, ra, nr, rc, rfl, HNR, HQ2, hid IH2.out, b2, hid ?_⟩
                rw [hx]; simp; omega
            have hlc : wr.cell? ⟨lb, j, none⟩ = some (.slice la ln lc) := by rw [S.out.swap.cell j, hcell]
            have hj2 : decide ((j : Int) < 2) = true := decide_eq_true (by omega)
            clear hcell
            go_wp2_with fail
            clear hj2
            go_loopw [3, 46] (fun nv iv wr => ∃ (i : Nat), i ≤ ln ∧ iv = .int .i64 i ∧ nv = .int .i64 (IntKind.i64.wrap (x + wdsL (ls.take i))) ∧ Hid (Sat W wr (arch h :: blk lb (.cells #[.slice ia ni ic, .slice ra nr rc] 22 (0, 0)) :: L))) (fun _ iv _ => ln - (intOf iv).toNat)
            case atStart => exact ⟨0, Nat.zero_le _, rfl, by simp [wdsL], S⟩
            case round =>
              obtain ⟨i, hi, rfl, rfl, S5⟩ := hrel
              clear S hlc
              by_cases hlt2 : i < ln
              · obtain ⟨y, hy⟩ : ∃ y, ls[i]? = some y := ⟨_, List.getElem?_eq_getElem (by have := HLN.out; omega)⟩
                obtain ⟨g, off, ys, rfl, hc, hin⟩ := HLI.out.get hy
                have hin0 := hin
                obtain ⟨ia', ic', ra', rc', ba', bc', rfl, _⟩ := hin.vals
                have k0 := S5.out.cellIn (hc 0 _ rfl)
                have k1 := S5.out.cellIn (hc 1 _ rfl)
                have k2 := S5.out.cellIn (hc 2 _ rfl)
                have k3 := S5.out.cellIn (hc 3 _ rfl)
                have k4 := S5.out.cellIn (hc 4 _ rfl)
                have k5 := S5.out.cellIn (hc 5 _ rfl)
                rw [Nat.zero_add] at k0 k1 k2 k3 k4 k5
                rw [Nat.add_zero] at k0
                have htc := HIH.out y (List.mem_of_getElem? hy) W _ _ _ _ (S5.out.alloc' (.cells (tVals y ia' ic' ra' rc' ba' bc').toArray 25)) hin0
                have hst := wdsL_step hy
                have HST := hid hst
                have HTC := hid htc
                clear hc hin hin0 hy htc hst
                unfold tVals at HTC
                go_wp2_with fail
                refine HTC.out.mono ?_
                rintro e w3 ⟨rfl, s3⟩
                have S6 := hid s3
                clear s3 S5 HTC k0 k1 k2 k3 k4 k5
                go_wp2_with fail
                go_roundw
                case rel => exact ⟨i + 1, by omega, by go_num, by rw [wrapS64, HST.out, Int.add_assoc], S6⟩
                case measure => simp [intOf]; omega
              · obtain rfl : i = ln := by omega
                rw [List.take_of_length_le (by rw [HLN.out]; exact Nat.le_refl _)]
                go_wp2_with fail
                go_roundw
                case rel => exact ⟨j + 1, x + wdsL ls, by omega, by go_num, rfl, HXX, S5⟩
                case measure => simp [intOf]; omega
          · obtain rfl : j = 2 := by omega
            have hx : x = wt := by
              rw [HX.out, ← HW0.out, HWE.out, HV0.out]
              simp
            subst hx
            go_wp2_with fail
            go_ret
            exact ⟨rfl, S.out.swap.drop⟩
set_option maxRecDepth 100000 in
theorem wordsX_step (t : T) (hok : TOk t) (hfl : TFl t) (ih1 : ∀ x ∈ t.is, WordsC 50 x) (ih2 : ∀ x ∈ t.rs, WordsC 50 x) : WordsC 50 t := by
  intro W w L h vs S hin
  have HF := hid hok.fit
  obtain ⟨ia, ic, ra, rc, ba, bc, rfl, q1, q2, q3, q4⟩ := hin.vals
  have hfe := TFl.eq.1 hfl
  obtain ⟨ni, HNI⟩ : ∃ ni, Hid (t.is.length = ni) := ⟨_, hid rfl⟩
  obtain ⟨nr, HNR⟩ : ∃ nr, Hid (t.rs.length = nr) := ⟨_, hid rfl⟩
  obtain ⟨nb, HNB⟩ : ∃ nb, Hid (t.bs.length = nb) := ⟨_, hid rfl⟩
  obtain ⟨k, HK⟩ : ∃ k, Hid (t.k = k) := ⟨_, hid rfl⟩
  obtain ⟨n, HN⟩ : ∃ n, Hid (t.n = n) := ⟨_, hid rfl⟩
  have b1 : ni ≤ 1353245080300 := by rw [← HNI.out]; exact HF.out.is
  have b2 : nr ≤ 1353245080300 := by rw [← HNR.out]; exact HF.out.rs
  have HQ1 := hid q1
  have HQ2 := hid q2
  have IH1 := hid ih1
  have IH2 := hid ih2
  have HFE := hid hfe
  have HFL := hid hfl
  have hwe := wds_eq t
  obtain ⟨wt, HW0⟩ : ∃ wt, Hid (wds t = wt) := ⟨_, hid rfl⟩
  have HWE := hid hwe
  have s1 := (S.allocAt (k := w.heap.size) (.cells #[.int .i64 k, .int .i64 n, .string t.nm, .slice ia ni ic, .slice ra nr rc, .slice ba nb bc] 25) rfl)
  have hw0 : w0 t = if k = 1 then (if n < -1152921504606846976 ∨ 1152921504606846976 ≤ n then 2 else 0) else if k = 8 then 4 else if k = 5 then 1 + (ni : Int) else if k = 7 then 3 * (ni : Int) else 0 := by
    unfold w0
    rw [HK.out, HN.out, HNI.out]
  have H0 := hid hw0
  unfold tVals
  rw [HNI.out, HNR.out, HNB.out, HK.out, HN.out, HW0.out]
  have S1 := hid s1
  have t0 : World.cell? _ ⟨w.heap.size, 0, none⟩ = some (.int .i64 k) := s1.cell 0
  have t1 : World.cell? _ ⟨w.heap.size, 1, none⟩ = some (.int .i64 n) := s1.cell 1
  have t3 : World.cell? _ ⟨w.heap.size, 3, none⟩ = some (.slice ia ni ic) := s1.cell 3
  have t4 : World.cell? _ ⟨w.heap.size, 4, none⟩ = some (.slice ra nr rc) := s1.cell 4
  clear S hin hok q1 q2 q3 ih1 ih2 s1 hfe hfl hwe hw0
  go_enter Tryd.func50, Tryd.ntmps50
  obtain ⟨v0, HV0⟩ : ∃ v0, Hid (w0 t = v0) := ⟨_, hid rfl⟩
  have h0 := H0.out
  rw [HV0.out] at h0
  go_upto_block 0 with fail
  go_cut [3] (fun v wc => v = .int .i64 v0 ∧ Hid (Sat W wc (blk w.heap.size (.cells #[.int .i64 k, .int .i64 n, .string t.nm, .slice ia ni ic, .slice ra nr rc, .slice ba nb bc] 25 (0, 0)) :: arch h :: L)))
  case first =>
    by_cases k1 : k = 1
    · subst k1
      by_cases hn1 : n < -1152921504606846976
      · have h9 : v0 = 2 := by rw [h0]; simp [hn1]
        clear h0
        subst h9
        go_wp2_with fail
        go_meet
        exact ⟨rfl, S1⟩
      · by_cases hn2 : 1152921504606846976 ≤ n
        · have h9 : v0 = 2 := by rw [h0]; simp [hn2]
          clear h0
          subst h9
          go_wp2_with fail
          go_meet
          exact ⟨rfl, S1⟩
        · have h9 : v0 = 0 := by rw [h0]; simp [hn1, hn2]
          clear h0
          subst h9
          go_wp2_with fail
          go_meet
          exact ⟨rfl, S1⟩
    · by_cases k5 : k = 5
      · subst k5
        obtain rfl : v0 = 1 + ni := h0
        have hwr : IntKind.i64.wrap (1 + (ni : Int)) = 1 + (ni : Int) := IntWalk.i64_in _ (by omega)
        go_wp2_with fail
        go_meet
        exact ⟨rfl, S1⟩
      · by_cases k7 : k = 7
        · subst k7
          obtain rfl : v0 = 3 * ni := h0
          have hwr : IntKind.i64.wrap (3 * (ni : Int)) = 3 * (ni : Int) := IntWalk.i64_in _ (by omega)
          go_wp2_with fail
          go_meet
          exact ⟨rfl, S1⟩
        · by_cases k8 : k = 8
          · subst k8
            obtain rfl : v0 = 4 := h0
            go_wp2_with fail
            go_meet
            exact ⟨rfl, S1⟩
          · rw [if_neg k1, if_neg k8, if_neg k5, if_neg k7] at h0
            subst h0
            go_wp2_with fail
            go_meet
            exact ⟨rfl, S1⟩
  case rest =>
    obtain ⟨rfl, S⟩ := hcut
    clear S1 t0 t1 t3 t4
    have hv0 : IntKind.i64.wrap v0 = v0 := by
      refine IntWalk.i64_in _ ?_
      rw [h0]
      repeat' split
      all_goals omega
    have hV0 := hid hv0
    clear h0 hv0
    go_wp2_with fail
    go_loopw [3, 4] (fun nv iv wr => ∃ (i : Nat), i ≤ ni ∧ iv = .int .i64 i ∧ nv = .int .i64 (IntKind.i64.wrap (v0 + wdsL (t.is.take i))) ∧ Hid (Sat W wr (blk w.heap.size (.cells #[.int .i64 k, .int .i64 n, .string t.nm, .slice ia ni ic, .slice ra nr rc, .slice ba nb bc] 25 (0, 0)) :: arch h :: L))) (fun _ iv _ => ni - (intOf iv).toNat)
    case atStart => exact ⟨0, Nat.zero_le _, rfl, by simp [wdsL, hV0.out], S⟩
    case round =>
      obtain ⟨i, hi, rfl, rfl, S5⟩ := hrel
      clear S
      have t3 : wr.cell? ⟨w.heap.size, 3, none⟩ = some (.slice ia ni ic) := S5.out.cell 3
      by_cases hlt2 : i < ni
      · obtain ⟨y, hy⟩ : ∃ y, t.is[i]? = some y := ⟨_, List.getElem?_eq_getElem (by have := HNI.out; omega)⟩
        obtain ⟨g, off, ys, rfl, hc, hin⟩ := HQ1.out.get hy
        have hin0 := hin
        obtain ⟨ia', ic', ra', rc', ba', bc', rfl, _⟩ := hin.vals
        have k0 := S5.out.swap.cellIn (hc 0 _ rfl)
        have k1 := S5.out.swap.cellIn (hc 1 _ rfl)
        have k2 := S5.out.swap.cellIn (hc 2 _ rfl)
        have k3 := S5.out.swap.cellIn (hc 3 _ rfl)
        have k4 := S5.out.swap.cellIn (hc 4 _ rfl)
        have k5 := S5.out.swap.cellIn (hc 5 _ rfl)
        rw [Nat.zero_add] at k0 k1 k2 k3 k4 k5
        rw [Nat.add_zero] at k0
        have htc := IH1.out y (List.mem_of_getElem? hy) W _ _ _ _ S5.out.swap hin0
        have hst := wdsL_step hy
        have HST := hid hst
        have HTC := hid htc
        clear hc hin hin0 hy htc hst
        unfold tVals at HTC
        go_wp2_with fail
        refine HTC.out.mono ?_
        rintro e w3 ⟨rfl, s3⟩
        have S6 := hid s3.swap
        clear s3 S5 HTC k0 k1 k2 k3 k4 k5
        go_wp2_with fail
        go_roundw
        case rel => exact ⟨i + 1, by omega, by go_num, by rw [wrapS64, HST.out, Int.add_assoc], S6⟩
        case measure => simp [intOf]; omega
      · obtain rfl : i = ni := by omega
        rw [List.take_of_length_le (by rw [HNI.out]; exact Nat.le_refl _)]
        go_wp2_with fail
        clear t3
        go_loopw [3, 5] (fun nv iv wr => ∃ (j : Nat), j ≤ nr ∧ iv = .int .i64 j ∧ nv = .int .i64 (IntKind.i64.wrap (v0 + wdsL t.is + wdsL (t.rs.take j))) ∧ Hid (Sat W wr (blk w.heap.size (.cells #[.int .i64 k, .int .i64 n, .string t.nm, .slice ia i ic, .slice ra nr rc, .slice ba nb bc] 25 (0, 0)) :: arch h :: L))) (fun _ iv _ => nr - (intOf iv).toNat)
        case atStart => exact ⟨0, Nat.zero_le _, rfl, by simp [wdsL], S5⟩
        case round =>
          obtain ⟨j, hj, rfl, rfl, S⟩ := hrel
          clear S5
          have t4 : wr.cell? ⟨w.heap.size, 4, none⟩ = some (.slice ra nr rc) := S.out.cell 4
          by_cases hlt2 : j < nr
          · obtain ⟨y, hy⟩ : ∃ y, t.rs[j]? = some y := ⟨_, List.getElem?_eq_getElem (by have := HNR.out; omega)⟩
            obtain ⟨g, off, ys, rfl, hc, hin⟩ := HQ2.out.get hy
            have hin0 := hin
            obtain ⟨ia', ic', ra', rc', ba', bc', rfl, _⟩ := hin.vals
            have k0 := S.out.swap.cellIn (hc 0 _ rfl)
            have k1 := S.out.swap.cellIn (hc 1 _ rfl)
            have k2 := S.out.swap.cellIn (hc 2 _ rfl)
            have k3 := S.out.swap.cellIn (hc 3 _ rfl)
            have k4 := S.out.swap.cellIn (hc 4 _ rfl)
            have k5 := S.out.swap.cellIn (hc 5 _ rfl)
            rw [Nat.zero_add] at k0 k1 k2 k3 k4 k5
            rw [Nat.add_zero] at k0
            have htc := IH2.out y (List.mem_of_getElem? hy) W _ _ _ _ S.out.swap hin0
            have hst := wdsL_step hy
            have HST := hid hst
            have HTC := hid htc
            clear hc hin hin0 hy htc hst
            unfold tVals at HTC
            go_wp2_with fail
            refine HTC.out.mono ?_
            rintro e w3 ⟨rfl, s3⟩
            have S6 := hid s3.swap
            clear s3 S HTC k0 k1 k2 k3 k4 k5
            go_wp2_with fail
            go_roundw
            case rel => exact ⟨j + 1, by omega, by go_num, by rw [wrapS64, HST.out, Int.add_assoc], S6⟩
            case measure => simp [intOf]; omega
          · obtain rfl : j = nr := by omega
            have hx : wt = v0 + wdsL t.is + wdsL t.rs := by
              rw [← HW0.out, HWE.out, HV0.out]
              omega
            rw [List.take_of_length_le (by rw [HNR.out]; exact Nat.le_refl _)]
            have HXX := hid hx
            clear hx
            go_wp2_with fail
            go_ret
            exact ⟨by rw [HXX.out]; rfl, S.out.drop⟩
theorem words_t (t : T) : TOk t → TFl t → WordsC 49 t := by
  induction t using T.ind with
  | h k n nm is rs bs ih1 ih2 =>
    intro hok hfl
    have hf := hok.fit
    have hl := TFl.eq.1 hfl
    exact words_step _ hok hfl (fun x hx => ih1 x hx (hf.si x hx) (hl.2.1.mem hx)) (fun x hx => ih2 x hx (hf.sr x hx) (hl.2.2.mem hx))
theorem wordsX_t (t : T) : TOk t → TFl t → WordsC 50 t := by
  induction t using T.ind with
  | h k n nm is rs bs ih1 ih2 =>
    intro hok hfl
    have hf := hok.fit
    have hl := TFl.eq.1 hfl
    exact wordsX_step _ hok hfl (fun x hx => ih1 x hx (hf.si x hx) (hl.2.1.mem hx)) (fun x hx => ih2 x hx (hf.sr x hx) (hl.2.2.mem hx))
def wdsOf (t : T) : Int := if rightOf t = none then IntKind.i64.wrap (wds t) else 0
section
variable {W w : World} {L : List HP} {h : Nat → Option Obj}
theorem words_any (S : Sat W w (arch h :: L)) (t : T) (vs : List Value) (hin : TIn h t vs) (hok : TOk t) :
    Calls Tryd.prog 26 #[.agg vs.toArray] w fun e w' => ∃ h', e = .returned (.int .i64 (wdsOf t)) ∧ Le h h' ∧ Sat W w' (arch h' :: L) := by
  obtain ⟨ia, ic, ra, rc, ba, bc, rfl, _⟩ := hin.vals
  have S0 := (S.alloc (.cells (tVals t ia ic ra rc ba bc).toArray 25)).swap
  have HC := hid (right_t S0 t (tVals t ia ic ra rc ba bc) hin hok)
  have HIN := hid hin
  have HOK := hid hok
  have c0 := S0.swap.get
  unfold tVals at HC HIN c0 ⊢
  clear S S0 hin hok
  go_enter Tryd.func26, Tryd.ntmps26
  go_wp2_with fail
  refine HC.out.mono ?_
  rintro e w1 ⟨v, h1, rfl, l1, e1, s1⟩
  have L1 := hid l1
  have S1 := hid s1
  have k0 : w1.cell? ⟨w.heap.size, 0, none⟩ = some (.int .i64 t.k) := s1.swap.cell 0
  have k1 : w1.cell? ⟨w.heap.size, 1, none⟩ = some (.int .i64 t.n) := s1.swap.cell 1
  have k2 : w1.cell? ⟨w.heap.size, 2, none⟩ = some (.string t.nm) := s1.swap.cell 2
  have k3 : w1.cell? ⟨w.heap.size, 3, none⟩ = some (.slice ia t.is.length ic) := s1.swap.cell 3
  have k4 : w1.cell? ⟨w.heap.size, 4, none⟩ = some (.slice ra t.rs.length rc) := s1.swap.cell 4
  have k5 : w1.cell? ⟨w.heap.size, 5, none⟩ = some (.slice ba t.bs.length bc) := s1.swap.cell 5
  clear l1 s1 HC
  cases hr : rightOf t with
  | some nk =>
    obtain ⟨n, k⟩ := nk
    rw [hr] at e1
    have e1 : ErrIn h1 v [(tTerm, n)] k := e1
    obtain ⟨ty, x, rfl⟩ := e1.iface
    have hwo : wdsOf t = 0 := by unfold wdsOf; rw [hr]; simp
    have HWO := hid hwo
    clear hr e1 hwo
    go_wp2_with fail
    go_ret
    exact ⟨h1, by rw [HWO.out]; rfl, L1.out, S1.out.swap.drop⟩
  | none =>
    rw [hr] at e1
    have e1 : v = .nilIface := e1
    subst e1
    have hwo : wdsOf t = IntKind.i64.wrap (wds t) := by unfold wdsOf; rw [hr]; simp
    have HWO := hid hwo
    have hwt := words_t t HOK.out (right_fl hr) W _ _ h1 _ S1.out.swap.drop (TIn.mono L1.out t HIN.out)
    have HWT := hid hwt
    clear hr hwo hwt
    go_wp2_with fail
    refine HWT.out.mono ?_
    rintro e w2 ⟨rfl, s2⟩
    have S2 := hid s2
    clear s2 HWT
    go_wp2_with fail
    go_ret
    exact ⟨h1, by rw [HWO.out]; rfl, L1.out, S2.out⟩
end
#print axioms right_fl
end Go.Proofs.YteaabbghnfideaaDoor
