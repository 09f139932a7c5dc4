/-
  vet: module, Module.
-/
import Derived.Test.YtohdhckafebmhaaDoorVetD
import Derived.Test.YtohdhckafebmhaaDoorRKind
import Derived.Deep.RegionLaw
import Derived.Laws.Tables
import Derived.Laws.Rows
import Derived.Great.BuildSlice
namespace Go.Proofs.YtohdhckafebmhaaDoor
open Go.RowKit
set_option maxHeartbeats 4000000
set_option maxRecDepth 100000

theorem FnIn.mono {h h' : Nat → Option Obj} {f : Fn} {vs : List Value} (q : FnIn h f vs) (l : Le h h') : FnIn h' f vs := by
  obtain ⟨ca, cc, e, r, x⟩ := q
  exact ⟨ca, cc, e, r.mono l, x⟩
theorem FsIn.mono {h h' : Nat → Option Obj} {fs : List Fn} {fa : Option Addr} (q : FsIn h fs fa) (l : Le h h') : FsIn h' fs fa := fun i f hf => by
  obtain ⟨g, off, vs, e, c, r⟩ := q i f hf
  exact ⟨g, off, vs, e, fun j u hj => cellIn_mono l (c j u hj), r.mono l⟩
theorem shapes_any {W w : World} {L : List HP} (S : Sat W w L) : Calls Tryd.prog 28 #[] w fun e w' => e = .returned (.agg shpV.toArray) ∧ Sat W w' L := by
  have HS : Hid (∀ zs, Sat W ((w.alloc (.cells zs 69)).setRow w.heap.size shpV.toArray) L) := hid fun zs =>
    ((S.alloc (.cells zs 69)).turn (w' := (w.alloc (.cells zs 69)).setRow w.heap.size shpV.toArray) (o' := .cells shpV.toArray 69) rfl rfl rfl (by simp [World.setRow]) (setRow_heap _ _ _ _ _ _ (heap_alloc_new _ _)) (fun k _ hk => setRow_other _ _ _ _ hk)).drop
  clear S
  go_enter Tryd.func28, Tryd.ntmps28
  go_wp2_with (first
    | (refine wpList_buildTo rfl 69 _ rfl (some 1) rfl shpV.toArray (by as_aux_lemma => kernel_rfl) ?_)
    | (refine wpList_store_rowTo rfl 69 _ _ rfl rfl w.heap.size shpV.toArray (by rfl) (by rfl) 69 _ (heap_alloc_new _ _) (by as_aux_lemma => kernel_rfl) (by as_aux_lemma => kernel_rfl) (by as_aux_lemma => kernel_rfl) ?_))
  exact bodyPost_ret (v := .agg shpV.toArray) (results_cell_row rfl _ _ w.heap.size 69 shpV.toArray (0, 0) _ rfl (setRow_heap _ _ _ _ _ _ (heap_alloc_new _ _)) Tryd.underlying69 rfl (by as_aux_lemma => kernel_rfl)) rfl ⟨rfl, HS.out _⟩
theorem shp_fold (a b c : Value) : (List.foldl (fun cs x => cs.setIfInBounds (7 + x.snd) x.fst) #[a, b, c, .string ⟨#[]⟩, .int .i64 0, .int .i64 0, .slice none 0 0, .string ⟨#[]⟩, .string ⟨#[]⟩, .string ⟨#[]⟩, .string ⟨#[]⟩, .string ⟨#[]⟩, .string ⟨#[]⟩, .string ⟨#[]⟩, .string ⟨#[]⟩, .string ⟨#[]⟩, .string ⟨#[]⟩, .string ⟨#[]⟩, .string ⟨#[]⟩, .string ⟨#[]⟩, .string ⟨#[]⟩, .string ⟨#[]⟩, .string ⟨#[]⟩, .string ⟨#[]⟩, .string ⟨#[]⟩, .string ⟨#[]⟩, .string ⟨#[]⟩, .string ⟨#[]⟩, .string ⟨#[]⟩, .string ⟨#[]⟩, .string ⟨#[]⟩, .string ⟨#[]⟩, .string ⟨#[]⟩, .string ⟨#[]⟩, .string ⟨#[]⟩, .string ⟨#[]⟩, .string ⟨#[]⟩, .string ⟨#[]⟩, .string ⟨#[]⟩, .string ⟨#[]⟩, .string ⟨#[]⟩, .string ⟨#[]⟩, .string ⟨#[]⟩, .string ⟨#[]⟩, .string ⟨#[]⟩, .string ⟨#[]⟩, .string ⟨#[]⟩, .string ⟨#[]⟩, .string ⟨#[]⟩] shpV.zipIdx) = vetc [a, b, c] [.string ⟨#[]⟩, .int .i64 0, .int .i64 0, .slice none 0 0] := by kernel_rfl
theorem ch_right {h : Nat → Option Obj} {v : Value} {t : T} (q : ErrOf h v (rightOf t)) : ChIn h v (match rightOf t with | some (n, k) => some ([(tTerm, (n : Int))], k) | none => none) := by
  cases hr : rightOf t with
  | none => rw [hr] at q; exact q
  | some p => obtain ⟨n, k⟩ := p; rw [hr] at q; exact ⟨q, rightOf_kind hr⟩
def ModP (W : World) (L : List HP) (h : Nat → Option Obj) (c : Chain) (e : Ending) (w' : World) : Prop := ∃ vv h', e = .returned vv ∧ Le h h' ∧ ChIn h' vv c ∧ Sat W w' (arch h' :: L)
section
variable {W w : World} {L : List HP} {h : Nat → Option Obj} {v : Nat} {nm fn : ByteArray} {la fa ca : Option Addr} {nl lc nf fc nc cc : Nat} {ar sl : Int}
theorem mod_any (S : Sat W w (blk v (.cells (vetc [.string nm, .slice la nl lc, .slice fa nf fc] [.string fn, .int .i64 ar, .int .i64 sl, .slice ca nc cc]) 72 (0, 0)) :: arch h :: L)) (m : Md) (h0 : m.nm = nm) (h1 : m.lits.length = nl) (h2 : m.fs.length = nf) (hnf : nf ≤ 140737488351232) (hnl : nl ≤ 140737488351232) (hfc : nf ≤ fc ∧ fc ≤ maxLen)
    (hlin : LIn h m.lits la 0) (hlok : LOk m.lits) (hin : FsIn h m.fs fa) (hok : ∀ f ∈ m.fs, FnOk f) (hb : BifM m) :
    Calls Tryd.prog 29 #[.pointer (some ⟨v, 0, none⟩)] w (ModP W L h (modE m)) := by
  have v0 : w.cell? ⟨v, 0, none⟩ = some (.string nm) := S.cell 0
  have v1 : w.cell? ⟨v, 1, none⟩ = some (.slice la nl lc) := S.cell 1
  have v2 : w.cell? ⟨v, 2, none⟩ = some (.slice fa nf fc) := S.cell 2
  obtain ⟨r, HR⟩ : ∃ r, Hid (modE m = r) := ⟨_, hid rfl⟩
  rw [HR.out]
  have S1 := hid S
  have H0 := hid h0
  have H1 := hid h1
  have H2 := hid h2
  have HL := hid hlin
  have HLO := hid hlok
  have HIN := hid hin
  have HOK := hid hok
  have HB := hid hb
  have HFC := hid hfc
  clear S h0 h1 h2 hlin hlok hin hok hb hfc
  have fail11 : (255 < m.nm.size ∨ ¬ inB ((m.fs.length : Int) - 1) 256 = true ∨ 65536 < m.lits.length) → r = some ([], 11) := by
    intro q
    rw [← HR.out]
    unfold modE
    rw [if_pos q]
  rw [H0.out, H1.out, H2.out] at fail11
  have HFAIL := hid fail11
  clear fail11
  have hwr : IntKind.i64.wrap ((nf : Int) - 1) = (nf : Int) - 1 := IntWalk.i64_in _ (by omega)
  obtain ⟨qc, hcd⟩ : ∃ q, inB ((nf : Int) - 1) 256 = q := ⟨_, rfl⟩
  have HCD := hid (fun (wx : World) => in_eq (w := wx) hcd)
  have Hc := hid hcd
  clear hcd
  by_cases c1 : 255 < nm.size
  · have c1' : (255 : Int) < ((nm.size : Nat) : Int) := by omega
    have HX := hid (HFAIL.out (.inl c1))
    go_enter Tryd.func29, Tryd.ntmps29
    go_wp2_with fail
    go_ret
    exact ⟨_, h, rfl, Le.refl h, by rw [HX.out]; exact ⟨rfl, by decide⟩, S1.out.drop⟩
  have c1' : ¬ (255 : Int) < ((nm.size : Nat) : Int) := by omega
  cases qc with
  | false =>
    have HX := hid (HFAIL.out (.inr (.inl (by rw [Hc.out]; simp))))
    go_enter Tryd.func29, Tryd.ntmps29
    go_wp2_with (go_at_call 39; refine (HCD.out _).mono ?_; rintro e w' ⟨rfl, rfl⟩)
    go_ret
    exact ⟨_, h, rfl, Le.refl h, by rw [HX.out]; exact ⟨rfl, by decide⟩, S1.out.drop⟩
  | true =>
  by_cases c2 : 65536 < nl
  · have c2' : (65536 : Int) < ((nl : Nat) : Int) := by omega
    have HX := hid (HFAIL.out (.inr (.inr c2)))
    go_enter Tryd.func29, Tryd.ntmps29
    go_wp2_with (go_at_call 39; refine (HCD.out _).mono ?_; rintro e w' ⟨rfl, rfl⟩)
    go_ret
    exact ⟨_, h, rfl, Le.refl h, by rw [HX.out]; exact ⟨rfl, by decide⟩, S1.out.drop⟩
  have c2' : ¬ (65536 : Int) < ((nl : Nat) : Int) := by omega
  have hnf2 : nf ≤ 256 := by have := inB_lt Hc.out; omega
  have hr0 : r = match litL 0 m.lits with
    | some e => some e
    | none => funL m 0 m.fs := by
    rw [← HR.out]
    unfold modE
    rw [if_neg (by rw [H0.out, H1.out, H2.out, Hc.out]; rintro (q | q | q); exact c1 q; exact q rfl; exact c2 q)]
    rfl
  have HR0 := hid hr0
  clear hr0 HFAIL
  go_enter Tryd.func29, Tryd.ntmps29
  go_wp2_with (go_at_call 39; refine (HCD.out _).mono ?_; rintro e w' ⟨rfl, rfl⟩)
  clear v0 v1 v2
  go_loopw [42] (fun jv wx => ∃ (j : Nat) (h1 : Nat → Option Obj), j ≤ nl ∧ jv = .int .i64 j ∧ Hid (litL 0 m.lits = litL j (m.lits.drop j)) ∧ Hid (Le h h1) ∧ Hid (Sat W wx (blk v (.cells (vetc [.string nm, .slice la nl lc, .slice fa nf fc] [.string fn, .int .i64 ar, .int .i64 sl, .slice ca nc cc]) 72 (0, 0)) :: arch h1 :: L))) (fun jv _ => nl - (intOf jv).toNat)
  case atStart => exact ⟨0, h, Nat.zero_le _, rfl, hid (by simp), hid (Le.refl h), S1⟩
  case round =>
    obtain ⟨j, h1, hj, rfl, HI, HLE, S⟩ := hrel
    clear S1
    by_cases hlt : j < nl
    · obtain ⟨t, ht⟩ : ∃ t, m.lits[j]? = some t := ⟨_, List.getElem?_eq_getElem (by rw [H1.out]; exact hlt)⟩
      have hdr : m.lits.drop j = t :: m.lits.drop (j + 1) := by
        obtain ⟨hh, hh2⟩ := List.getElem?_eq_some_iff.1 ht
        rw [List.drop_eq_getElem_cons hh, hh2]
      obtain ⟨g, off, vs, rfl, hc, htin⟩ := (HL.out.mono HLE.out).get ht
      obtain ⟨ia, ic, ra, rc, ba, bc, rfl, _⟩ := htin.vals
      unfold tVals at hc
      rw [Nat.zero_add] at hc
      have k0 := S.out.swap.cellIn (hc 0 _ rfl)
      have k1 := S.out.swap.cellIn (hc 1 _ rfl)
      have k2 := S.out.swap.cellIn (hc 2 _ rfl)
      have k3 := S.out.swap.cellIn (hc 3 _ rfl)
      have k4 := S.out.swap.cellIn (hc 4 _ rfl)
      have k5 := S.out.swap.cellIn (hc 5 _ rfl)
      rw [Nat.add_zero] at k0
      have hjl : ((j : Nat) : Int) < (nl : Int) := by omega
      have S2 := hid ((S.out.alloc' (.cells #[.int .i64 t.k, .int .i64 t.n, .string t.nm, .slice ia t.is.length ic, .slice ra t.rs.length rc, .slice ba t.bs.length bc] 46)).swap)
      have HT := hid (right_t S2.out t _ htin (HLO.out.mem (List.mem_of_getElem? ht)))
      have hll : litL j (m.lits.drop j) = match rightOf t with | some (n, k) => some ([(tLit, (j : Int)), (tTerm, (n : Int))], k) | none => litL (j + 1) (m.lits.drop (j + 1)) := by rw [hdr, litL]; rfl
      have HLL := hid hll
      obtain ⟨q, hq⟩ : ∃ q, rightOf t = q := ⟨_, rfl⟩
      have HQ := hid hq
      unfold tVals at HT
      clear hc htin hdr ht hll hq
      cases q with
      | none =>
        go_wp2_with fail
        refine HT.out.mono ?_
        rintro e w1 ⟨vv, h2, rfl, l, q, s⟩
        rw [HQ.out] at q
        obtain rfl : vv = .nilIface := q
        have S3 := hid s.swap
        have HL3 := hid (HLE.out.trans l)
        clear s l S S2 HT k0 k1 k2 k3 k4 k5
        go_wp2_with fail
        go_roundw
        case rel => exact ⟨j + 1, h2, by omega, by go_num, hid (by rw [HI.out, HLL.out, HQ.out]), HL3, S3⟩
        case measure => simp [intOf]; omega
      | some p =>
        obtain ⟨n, k⟩ := p
        go_wp2_with fail
        refine HT.out.mono ?_
        rintro e w1 ⟨vv, h2, rfl, l, q, s⟩
        have hch := ch_right q
        rw [HQ.out] at hch q
        obtain ⟨it, ix, rfl⟩ := ErrIn.iface (show ErrIn h2 vv [(tTerm, (n : Int))] k from q)
        have HCH := hid hch
        have S3 := hid s
        have HL3 := hid (HLE.out.trans l)
        clear s l S S2 HT k0 k1 k2 k3 k4 k5 q hch
        go_wp2_with fail
        refine (at_ch S3.out tLit j HCH.out).mono ?_
        rintro e w2 ⟨vv, h', rfl, l, q, s2⟩
        have S5 := hid s2
        have HQ2 := hid q
        have HL' := hid (HL3.out.trans l)
        clear s2 q l S3
        go_wp2_with fail
        go_ret
        refine ⟨_, h', rfl, HL'.out, ?_, S5.out.swap.drop⟩
        rw [HR0.out, HI.out, HLL.out, HQ.out]
        exact HQ2.out
    · obtain rfl : j = nl := by omega
      have hnone : litL 0 m.lits = none := by rw [HI.out, List.drop_of_length_le (by rw [H1.out]; exact Nat.le_refl _), litL]
      have HR1 : Hid (r = funL m 0 m.fs) := hid (by rw [HR0.out, hnone])
      have v2 : _ = some (Value.slice fa nf fc) := S.out.cell 2
      clear hnone HI
      go_wp2_with fail
      clear v2
      go_loopw [61] (fun iv wx => ∃ (i : Nat) (h1 : Nat → Option Obj) (fn : ByteArray) (ar sl : Int) (ca : Option Addr) (nc cc : Nat), i ≤ nf ∧ iv = .int .i64 i ∧ Hid (funL m 0 m.fs = funL m i (m.fs.drop i)) ∧ Hid (Le h h1) ∧ Hid (Sat W wx (blk v (.cells (vetc [.string nm, .slice la j lc, .slice fa nf fc] [.string fn, .int .i64 ar, .int .i64 sl, .slice ca nc cc]) 72 (0, 0)) :: arch h1 :: L))) (fun iv _ => nf - (intOf iv).toNat)
      case atStart => exact ⟨0, h1, fn, ar, sl, ca, nc, cc, Nat.zero_le _, rfl, hid (by simp), HLE, S⟩
      case round =>
        obtain ⟨i, h2, fn', ar', sl', ca', nc', cc', hi, rfl, HI, HL2, S2⟩ := hrel
        clear S
        by_cases hlt2 : i < nf
        · obtain ⟨f, hf⟩ : ∃ f, m.fs[i]? = some f := ⟨_, List.getElem?_eq_getElem (by rw [H2.out]; exact hlt2)⟩
          have hdr : m.fs.drop i = f :: m.fs.drop (i + 1) := by
            obtain ⟨hh, hh2⟩ := List.getElem?_eq_some_iff.1 hf
            rw [List.drop_eq_getElem_cons hh, hh2]
          have HF := hid (fun_any S2.out m H1.out H2.out hnf2 HFC.out i f hf (HIN.out.mono HL2.out) HOK.out HB.out)
          have hfl : funL m i (m.fs.drop i) = match funE m i f with | some (l, k) => some ((tFun, (i : Int)) :: l, k) | none => funL m (i + 1) (m.fs.drop (i + 1)) := by rw [hdr, funL]; rfl
          have HFL := hid hfl
          obtain ⟨q, hq⟩ : ∃ q, funE m i f = q := ⟨_, rfl⟩
          have HQ := hid hq
          have hii : ((i : Nat) : Int) < (nf : Int) := by omega
          clear hdr hf hfl hq
          go_wp2_with fail
          refine HF.out.mono ?_
          rintro e w1 ⟨vv, h3, ca3, cc3, rfl, l, q3, s⟩
          rw [HQ.out] at q3
          unfold fnVals at s
          have HL3 := hid (HL2.out.trans l)
          cases q with
          | none =>
            obtain rfl : vv = .nilIface := q3
            have S3 := hid s
            clear s l S2 HF
            go_wp2_with fail
            go_roundw
            case rel => exact ⟨i + 1, h3, _, _, _, _, _, _, by omega, by go_num, hid (by rw [HI.out, HFL.out, HQ.out]), HL3, S3⟩
            case measure => simp [intOf]; omega
          | some p =>
            obtain ⟨fs, k⟩ := p
            have q4 : ErrIn h3 vv fs k ∧ k ≠ 0 := q3
            obtain ⟨it, ix, rfl⟩ := q4.1.iface
            have S3 := hid s.swap
            have HQ3 := hid q3
            clear s l S2 HF q3 q4
            go_wp2_with fail
            refine (at_ch S3.out tFun i HQ3.out).mono ?_
            rintro e w2 ⟨vv, h', rfl, l, q, s2⟩
            have S5 := hid s2
            have HQ2 := hid q
            have HL' := hid (HL3.out.trans l)
            clear s2 q l S3
            go_wp2_with fail
            go_ret
            refine ⟨_, h', rfl, HL'.out, ?_, S5.out.swap.drop⟩
            rw [HR1.out, HI.out, HFL.out, HQ.out]
            exact HQ2.out
        · obtain rfl : i = nf := by omega
          go_wp2_with fail
          go_ret
          refine ⟨_, h2, rfl, HL2.out, ?_, S2.out.drop⟩
          rw [HR1.out, HI.out, List.drop_of_length_le (by rw [H2.out]; exact Nat.le_refl _), funL]
          rfl
theorem vet_any (S : Sat W w (arch h :: L)) (m : Md) (hnf : m.fs.length ≤ 140737488351232) (hnl : m.lits.length ≤ 140737488351232) (hfc : m.fs.length ≤ fc ∧ fc ≤ maxLen)
    (hlin : LIn h m.lits la 0) (hlok : LOk m.lits) (hin : FsIn h m.fs fa) (hok : ∀ f ∈ m.fs, FnOk f) (hb : BifM m) :
    Calls Tryd.prog 12 #[.agg #[.string m.nm, .slice la m.lits.length lc, .slice fa m.fs.length fc]] w (ModP W L h (vetE m)) := by
  obtain ⟨nl, HNL⟩ : ∃ n, Hid (m.lits.length = n) := ⟨_, hid rfl⟩
  obtain ⟨nf, HNF⟩ : ∃ n, Hid (m.fs.length = n) := ⟨_, hid rfl⟩
  obtain ⟨nm, HNM⟩ : ∃ n, Hid (m.nm = n) := ⟨_, hid rfl⟩
  rw [HNL.out] at hnl
  rw [HNF.out] at hnf hfc
  rw [HNL.out, HNF.out, HNM.out]
  have S1 := hid (S.alloc (.cells #[.string nm, .slice la nl lc, .slice fa nf fc] 25))
  have hbox : (w.alloc (.cells #[.string nm, .slice la nl lc, .slice fa nf fc] 25)).heap[w.heap.size]? = some (.cells #[.string nm, .slice la nl lc, .slice fa nf fc] 25) := S1.out.get
  have HM : Hid (∀ wx v, Sat W wx (blk v (.cells (vetc [.string nm, .slice la nl lc, .slice fa nf fc] [.string ⟨#[]⟩, .int .i64 0, .int .i64 0, .slice none 0 0]) 72 (0, 0)) :: arch h :: L) → Calls Tryd.prog 29 #[.pointer (some ⟨v, 0, none⟩)] wx (ModP W L h (modE m))) :=
    hid fun wx v SX => mod_any SX m HNM.out HNL.out HNF.out hnf hnl hfc hlin hlok hin hok hb
  obtain ⟨c, HC⟩ : ∃ c, Hid (modE m = c) := ⟨_, hid rfl⟩
  have hv : vetE m = c.map fun p => ((tMod, 0) :: p.1, p.2) := by
    unfold vetE
    rw [HC.out]
    cases c with
    | none => rfl
    | some p => obtain ⟨l, k⟩ := p; rfl
  rw [hv]
  rw [HC.out] at HM
  have s2 := S1.out.drew
  have HSH := hid (shapes_any s2)
  have hsl : shpV.length = 42 := by kernel_rfl
  have hsf := shp_fold (.string nm) (.slice la nl lc) (.slice fa nf fc)
  clear S hnf hnl hfc hlin hlok hin hok hb hv s2
  go_enter Tryd.func12, Tryd.ntmps12
  go_wp2_with fail
  go_region_law (first
    | (go_simp
       go_at_call 28
       refine HSH.out.mono ?_
       rintro e w1 ⟨rfl, s1⟩
       have S2 := hid s1.drop
       have k0 : w1.cell? ⟨w.heap.size, 0, none⟩ = some (.string nm) := s1.cell 0
       have k1 : w1.cell? ⟨w.heap.size, 1, none⟩ = some (.slice la nl lc) := s1.cell 1
       have k2 : w1.cell? ⟨w.heap.size, 2, none⟩ = some (.slice fa nf fc) := s1.cell 2
       clear s1)
    | (go_simp
       go_at_call 29
       refine (HM.out _ _ (S2.out.allocAt (k := w1.heap.size) (.cells (vetc [.string nm, .slice la nl lc, .slice fa nf fc] [.string ⟨#[]⟩, .int .i64 0, .int .i64 0, .slice none 0 0]) 72) rfl)).mono ?_
       rintro e w2 ⟨vv, h1, rfl, l, q, s3⟩
       have S3 := hid s3
       have HL := hid l
       have HA := hid (at_ch s3 tMod 0 q)
       clear s3 l q S2 HM)
    | (go_simp
       go_at_call 27
       refine HA.out.mono ?_
       rintro e w3 ⟨v3, h3, rfl, l, q, s4⟩
       have HL2 := hid (HL.out.trans l)
       have HQ := hid q
       have S4 := hid s4
       clear s4 l q S3 HL HA))
  all_goals go_wp2_with fail
  all_goals go_ret
  all_goals exact ⟨_, h3, rfl, HL2.out, HQ.out, S4.out⟩
end
end Go.Proofs.YtohdhckafebmhaaDoor
