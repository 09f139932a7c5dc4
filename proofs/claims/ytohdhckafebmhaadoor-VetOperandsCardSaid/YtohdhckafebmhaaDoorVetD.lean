/-
  vet: function.
-/
import Derived.Test.YtohdhckafebmhaaDoorVetU
namespace Go.Proofs.YtohdhckafebmhaaDoor
open Go.RowKit
set_option maxHeartbeats 4000000
set_option maxRecDepth 100000

def ChIn (h : Nat → Option Obj) (v : Value) (c : Chain) : Prop := match c with | none => v = .nilIface | some (fs, k) => ErrIn h v fs k ∧ k ≠ 0
theorem ChIn.mono {h h' : Nat → Option Obj} {v : Value} {c : Chain} (q : ChIn h v c) (l : Le h h') : ChIn h' v c := by
  cases c with
  | none => exact q
  | some p => obtain ⟨fs, k⟩ := p; exact ⟨q.1.mono l, q.2⟩
theorem at_ch {W w : World} {L : List HP} {h : Nat → Option Obj} (S : Sat W w (arch h :: L)) (op : ByteArray) (n : Int) {v : Value} {c : Chain} (hv : ChIn h v c) :
    Calls Tryd.prog 27 #[.string op, .int .i64 n, v] w fun e w' => ∃ v' h', e = .returned v' ∧ Le h h' ∧ ChIn h' v' (c.map fun p => ((op, n) :: p.1, p.2)) ∧ Sat W w' (arch h' :: L) := by
  cases c with
  | none =>
    have hv : v = .nilIface := hv
    subst hv
    exact (at_nil op n w).mono fun e w' ⟨he, hw⟩ => ⟨_, h, he, Le.refl h, rfl, by rw [← hw]; exact S⟩
  | some p =>
    obtain ⟨fs, k⟩ := p
    exact (at_some S op n hv.1).mono fun e w' ⟨v', h', he, l, q, s⟩ => ⟨v', h', he, l, ⟨q, hv.2⟩, s⟩
theorem vetc_set (nm la fa a b c d a' b' c' d' : Value) : ((((vetc [nm, la, fa] [a, b, c, d]).setIfInBounds 3 a').setIfInBounds 4 b').setIfInBounds 5 c').setIfInBounds 6 d' = vetc [nm, la, fa] [a', b', c', d'] := by
  unfold vetc
  simp
/-- what a module asks of bif -/
def BifM (m : Md) : Prop := ∀ f ∈ m.fs, ∀ x ∈ f.code, x.op = 12 → BifC
def sameNm (fs : List Fn) (f : Fn) : Bool := fs.any fun g => g.nm.toList == f.nm.toList
theorem ch_err {h : Nat → Option Obj} (k : Int) : ChIn h (errV k) (if k = 0 then none else some ([], k)) := by
  by_cases e : k = 0
  · rw [if_pos e]; subst e; rfl
  · rw [if_neg e]; unfold errV; rw [if_neg e]; exact ⟨rfl, e⟩
theorem ins_zero {m : Md} {f : Fn} {x : In} (h : insE m f x = 0) : ∀ j, j < 3 → ordE m f x j = 0 := by
  unfold insE at h
  split at h
  · cases h
  split at h
  · next q => exact absurd h q
  next q0 =>
  split at h
  · next q => exact absurd h q
  next q1 =>
  split at h
  · next q => exact absurd h q
  next q2 =>
  intro j hj
  match j, hj with
  | 0, _ => exact Decidable.not_not.1 q0
  | 1, _ => exact Decidable.not_not.1 q1
  | 2, _ => exact Decidable.not_not.1 q2
theorem insL_none {m : Md} {f : Fn} : ∀ {l : List In} {i : Nat}, insL m f i l = none → ∀ x ∈ l, insE m f x = 0
  | [], _, _, x, hx => by cases hx
  | y :: l, i, h, x, hx => by
    unfold insL at h
    split at h
    · next q =>
      rcases List.mem_cons.1 hx with rfl | hx
      · exact q
      · exact insL_none h x hx
    · cases h
theorem way_kind {n : Nat} {s : Tr} {p : Int × Int} {e : Int} (h : way n s p = .inr e) : e ≠ 0 := by
  unfold way at h
  split at h
  · injection h with h; omega
  split at h
  · injection h with h; omega
  split at h <;> cases h
theorem ways_kind {n : Nat} : ∀ {ps : List (Int × Int)} {s : Tr} {e : Int}, ways n s ps = .inr e → e ≠ 0
  | [], s, e, h => by unfold ways at h; cases h
  | p :: ps, s, e, h => by
    unfold ways at h
    split at h
    · next hw => injection h with h; subst h; exact way_kind hw
    · exact ways_kind h
theorem step_kind {code : List In} {s : Tr} {e : Int} (h : stepT code s = .inr e) : e ≠ 0 := by
  unfold stepT at h
  split at h
  · cases h
  split at h
  · cases h
  simp only at h
  split at h
  · injection h with h; omega
  split at h
  · next hw => injection h with h; subst h; exact ways_kind hw
  · cases h
theorem runT_kind {code : List In} : ∀ {k : Nat} {s : Tr} {p : Nat} {e : Int}, runT code k s = .inr (p, e) → e ≠ 0
  | 0, s, p, e, h => by unfold runT at h; cases h
  | k + 1, s, p, e, h => by
    unfold runT at h
    split at h
    · split at h
      · next hw => injection h with h; injection h with h1 h2; subst h2; exact step_kind hw
      · exact runT_kind h
    · cases h
def trCh (c : List Int ⊕ (Nat × Int)) : Chain := match c with | .inr (pc, e) => some ([(tAt, (pc : Int))], e) | .inl _ => none
theorem tries_ch {c : List Int ⊕ (Nat × Int)} {pc k : Int} (h : TriesP c pc k) (hk : ∀ p e, c = .inr (p, e) → e ≠ 0) :
    (if k = 0 then (none : Chain) else some ([], k)).map (fun p => ((tAt, pc) :: p.1, p.2)) = trCh c := by
  cases c with
  | inl l => obtain ⟨rfl, rfl⟩ := h; rfl
  | inr q =>
    obtain ⟨p, e⟩ := q
    obtain ⟨rfl, rfl⟩ := h
    rw [if_neg (hk _ _ rfl)]
    rfl
theorem sameNm_step {fs : List Fn} {f f' : Fn} {j : Nat} (hj : fs[j]? = some f') : sameNm (fs.take (j + 1)) f = (sameNm (fs.take j) f || (f'.nm.toList == f.nm.toList)) := by
  unfold sameNm
  rw [List.take_add_one, hj, List.any_append]
  simp
theorem sameNm_le {fs : List Fn} {f f' : Fn} {j i : Nat} (hj : fs[j]? = some f') (hji : j < i) (he : (f'.nm.toList == f.nm.toList) = true) : sameNm (fs.take i) f = true := by
  unfold sameNm
  rw [List.any_eq_true]
  refine ⟨f', ?_, he⟩
  exact List.mem_of_getElem? (i := j) (by rw [List.getElem?_take_of_lt hji, hj])
def FunP (W : World) (L : List HP) (h : Nat → Option Obj) (v : Nat) (mv : List Value) (f : Fn) (c : Chain) (e : Ending) (w' : World) : Prop := ∃ vv h' ca' cc', e = .returned vv ∧ Le h h' ∧ ChIn h' vv c ∧ Sat W w' (blk v (.cells (vetc mv (fnVals f ca' cc')) 72 (0, 0)) :: arch h' :: L)
section
variable {W w : World} {L : List HP} {h : Nat → Option Obj} {v : Nat} {nm fn : ByteArray} {la fa ca : Option Addr} {nl lc nf fc nc cc : Nat} {ar sl : Int}
theorem fun_any (S : Sat W w (blk v (.cells (vetc [.string nm, .slice la nl lc, .slice fa nf fc] [.string fn, .int .i64 ar, .int .i64 sl, .slice ca nc cc]) 72 (0, 0)) :: arch h :: L)) (m : Md) (h1 : m.lits.length = nl) (h2 : m.fs.length = nf) (hnf : nf ≤ 256) (hfc : nf ≤ fc ∧ fc ≤ maxLen)
    (i : Nat) (f : Fn) (hf : m.fs[i]? = some f) (hin : FsIn h m.fs fa) (hok : ∀ f ∈ m.fs, FnOk f) (hb : BifM m) :
    Calls Tryd.prog 42 #[.pointer (some ⟨v, 0, none⟩), .int .i64 i] w (FunP W L h v [.string nm, .slice la nl lc, .slice fa nf fc] f (funE m i f)) := by
  have hi : i < nf := by rw [← h2]; exact (List.getElem?_eq_some_iff.1 hf).1
  obtain ⟨g, off, vs, rfl, hc, fca, fcc, rfl, hrd, hcc1, hcc2⟩ := hin i f hf
  have hfo := hok f (List.mem_of_getElem? hf)
  obtain ⟨n, HN⟩ : ∃ n, Hid (f.code.length = n) := ⟨_, hid rfl⟩
  obtain ⟨r, HR⟩ : ∃ r, Hid (funE m i f = r) := ⟨_, hid rfl⟩
  rw [HR.out]
  unfold fnVals at hc
  rw [HN.out] at hc
  have k0 := S.swap.cellIn (hc 0 _ rfl)
  have k1 := S.swap.cellIn (hc 1 _ rfl)
  have k2 := S.swap.cellIn (hc 2 _ rfl)
  have k3 := S.swap.cellIn (hc 3 _ rfl)
  have v2 : w.cell? ⟨v, 2, none⟩ = some (.slice (some ⟨g, off, none⟩) nf fc) := S.cell 2
  have v3 : w.cell? ⟨v, 3, none⟩ = some (.string fn) := S.cell 3
  have v4 : w.cell? ⟨v, 4, none⟩ = some (.int .i64 ar) := S.cell 4
  have v5 : w.cell? ⟨v, 5, none⟩ = some (.int .i64 sl) := S.cell 5
  have v6 : w.cell? ⟨v, 6, none⟩ = some (.slice ca nc cc) := S.cell 6
  have f3 := S.free 3
  have f4 := S.free 4
  have f5 := S.free 5
  have f6 := S.free 6
  have hvl := S.lt
  have s1 := ((((S.set 3 (.string f.nm)).set 4 (.int .i64 f.args)).set 5 (.int .i64 f.slots)).set 6 (.slice fca n fcc))
  rw [vetc_set] at s1
  have S1 := hid s1
  have H1 := hid h1
  have H2 := hid h2
  have HF := hid hf
  have HIN := hid hin
  have HOK := hid hok
  have HB := hid hb
  have HRD := hid hrd
  have HFO := hid hfo
  have hii : ((i : Nat) : Int) < (nf : Int) := by omega
  have hfl : nf ≤ 9223372036854775807 ∧ fc ≤ 9223372036854775807 := by unfold maxLen at hfc; omega
  obtain ⟨hfc1, hfc2⟩ := hfc
  obtain ⟨hfl1, hfl2⟩ := hfl
  rw [Nat.add_zero] at k0
  clear hf hin hok hb hrd hfo hc s1 h1 h2 S hcc1 hcc2
  go_enter Tryd.func42, Tryd.ntmps42
  go_wp2_with fail
  obtain ⟨fb, HFB⟩ : ∃ fb, Hid (w.heap.size = fb) := ⟨_, hid rfl⟩
  have S2 := hid (S1.out.allocAt (k := fb) (.cells #[.string f.nm, .int .i64 f.args, .int .i64 f.slots, .slice fca n fcc] 40) (by rw [← HFB.out]; simp))
  rw [HFB.out]
  clear S1 k0 k1 k2 k3 v2 v3 v4 v5 v6 f3 f4 f5 f6 hvl
  go_loopw [34] (fun jv wr => ∃ j : Nat, j ≤ i ∧ jv = .int .i64 j ∧ Hid (sameNm (m.fs.take j) f = false) ∧ Hid (Sat W wr (blk fb (.cells #[.string f.nm, .int .i64 f.args, .int .i64 f.slots, .slice fca n fcc] 40 (0, 0)) :: blk v (.cells (vetc [.string nm, .slice la nl lc, .slice (some ⟨g, off, none⟩) nf fc] [.string f.nm, .int .i64 f.args, .int .i64 f.slots, .slice fca n fcc]) 72 (0, 0)) :: arch h :: L))) (fun jv _ => i - (intOf jv).toNat)
  case atStart => exact ⟨0, Nat.zero_le _, rfl, hid rfl, S2⟩
  case round =>
    obtain ⟨j, hj, rfl, HS, S⟩ := hrel
    clear S2
    have n0 : wr.cell? ⟨fb, 0, none⟩ = some (.string f.nm) := S.out.cell 0
    have hfbl := S.out.lt
    by_cases hlt : j < i
    · obtain ⟨f', hf'⟩ : ∃ f', m.fs[j]? = some f' := ⟨_, List.getElem?_eq_getElem (by rw [H2.out]; omega)⟩
      obtain ⟨g', off', vs', hg', hc', ca', cc', rfl, _⟩ := HIN.out j f' hf'
      cases hg'
      have k0 := S.out.swap.drop.swap.cellIn (hc' 0 _ rfl)
      have k1 := S.out.swap.drop.swap.cellIn (hc' 1 _ rfl)
      have k2 := S.out.swap.drop.swap.cellIn (hc' 2 _ rfl)
      have k3 := S.out.swap.drop.swap.cellIn (hc' 3 _ rfl)
      rw [Nat.add_zero] at k0
      have HF' := hid hf'
      have hjj : ((j : Nat) : Int) < (i : Int) := by omega
      clear hf' hc'
      have SA := hid (S.out.alloc' (.cells #[.string f'.nm, .int .i64 f'.args, .int .i64 f'.slots, .slice ca' f'.code.length cc'] 40))
      obtain ⟨q, he⟩ : ∃ q, (f'.nm.toList == f.nm.toList) = q := ⟨_, rfl⟩
      cases q with
      | true =>
        have HE := hid he
        go_wp2_with fail
        go_ret
        refine ⟨_, h, fca, fcc, rfl, Le.refl h, ?_, by unfold fnVals; rw [HN.out]; exact SA.out.drop⟩
        rw [← HR.out]
        unfold funE
        rw [if_pos (by have := sameNm_le HF'.out hlt HE.out; unfold sameNm at this; exact this)]
        exact ⟨rfl, by decide⟩
      | false =>
        have HE := hid he
        go_wp2_with fail
        go_roundw
        case rel => exact ⟨j + 1, by omega, by go_num, hid (by rw [sameNm_step HF'.out, HS.out, HE.out]; rfl), SA⟩
        case measure => simp [intOf]; omega
    · obtain rfl : j = i := by omega
      have n1 : wr.cell? ⟨fb, 1, none⟩ = some (.int .i64 f.args) := S.out.cell 1
      have n2 : wr.cell? ⟨fb, 2, none⟩ = some (.int .i64 f.slots) := S.out.cell 2
      have n3 : wr.cell? ⟨fb, 3, none⟩ = some (.slice fca n fcc) := S.out.cell 3
      have hn9 : (n : Int) ≤ 4398046510976 := by have := HFO.out.len; rw [HN.out] at this; omega
      have hnx : ¬ ((j : Nat) : Int) < (j : Int) := by omega
      have hwr : IntKind.i64.wrap ((n : Int) - 1) = (n : Int) - 1 := IntWalk.i64_in _ (by omega)
      have fail11 : (f.nm.size < 1 ∨ 255 < f.nm.size ∨ ¬ inB f.args 9 = true ∨ ¬ inB f.slots 33 = true ∨ ¬ inB ((f.code.length : Int) - 1) 16384 = true) → r = some ([], 11) := by
        intro q
        rw [← HR.out]
        unfold funE
        rw [if_neg (by have := HS.out; unfold sameNm at this; rw [this]; simp), if_pos q]
      rw [HN.out] at fail11
      have HFAIL := hid fail11
      clear fail11
      obtain ⟨qa, ha⟩ : ∃ q, inB f.args 9 = q := ⟨_, rfl⟩
      obtain ⟨qs, hs⟩ : ∃ q, inB f.slots 33 = q := ⟨_, rfl⟩
      obtain ⟨qc, hcd⟩ : ∃ q, inB ((n : Int) - 1) 16384 = q := ⟨_, rfl⟩
      have HA := hid (fun (wx : World) => in_eq (w := wx) ha)
      have HSL := hid (fun (wx : World) => in_eq (w := wx) hs)
      have HCD := hid (fun (wx : World) => in_eq (w := wx) hcd)
      have Ha := hid ha
      have Hs := hid hs
      have Hc := hid hcd
      clear ha hs hcd
      by_cases c1 : f.nm.size < 1
      · have c1' : ((f.nm.size : Nat) : Int) < 1 := by omega
        have HX := hid (HFAIL.out (.inl c1))
        go_wp2_with fail
        go_ret
        exact ⟨_, h, fca, fcc, rfl, Le.refl h, by rw [HX.out]; exact ⟨rfl, by decide⟩, by unfold fnVals; rw [HN.out]; exact S.out.drop⟩
      have c1' : ¬ ((f.nm.size : Nat) : Int) < 1 := by omega
      by_cases c2 : 255 < f.nm.size
      · have c2' : (255 : Int) < ((f.nm.size : Nat) : Int) := by omega
        have HX := hid (HFAIL.out (.inr (.inl c2)))
        go_wp2_with fail
        go_ret
        exact ⟨_, h, fca, fcc, rfl, Le.refl h, by rw [HX.out]; exact ⟨rfl, by decide⟩, by unfold fnVals; rw [HN.out]; exact S.out.drop⟩
      have c2' : ¬ (255 : Int) < ((f.nm.size : Nat) : Int) := by omega
      cases qa with
      | false =>
        have HX := hid (HFAIL.out (.inr (.inr (.inl (by rw [Ha.out]; simp)))))
        go_wp2_with (go_at_call 39; refine (HA.out _).mono ?_; rintro e w' ⟨rfl, rfl⟩)
        go_ret
        exact ⟨_, h, fca, fcc, rfl, Le.refl h, by rw [HX.out]; exact ⟨rfl, by decide⟩, by unfold fnVals; rw [HN.out]; exact S.out.drop⟩
      | true =>
      cases qs with
      | false =>
        have HX := hid (HFAIL.out (.inr (.inr (.inr (.inl (by rw [Hs.out]; simp))))))
        go_wp2_with (go_at_call 39; first | (with_reducible refine (HA.out _).mono ?_; rintro e w' ⟨rfl, rfl⟩) | (refine (HSL.out _).mono ?_; rintro e w' ⟨rfl, rfl⟩))
        go_ret
        exact ⟨_, h, fca, fcc, rfl, Le.refl h, by rw [HX.out]; exact ⟨rfl, by decide⟩, by unfold fnVals; rw [HN.out]; exact S.out.drop⟩
      | true =>
      cases qc with
      | false =>
        have HX := hid (HFAIL.out (.inr (.inr (.inr (.inr (by rw [Hc.out]; simp))))))
        go_wp2_with (go_at_call 39; first | ((with_reducible refine (HA.out _).mono ?_); rintro e w' ⟨rfl, rfl⟩) | ((with_reducible refine (HSL.out _).mono ?_); rintro e w' ⟨rfl, rfl⟩) | (refine (HCD.out _).mono ?_; rintro e w' ⟨rfl, rfl⟩))
        go_ret
        exact ⟨_, h, fca, fcc, rfl, Le.refl h, by rw [HX.out]; exact ⟨rfl, by decide⟩, by unfold fnVals; rw [HN.out]; exact S.out.drop⟩
      | true =>
      have hcb := inB_lt Hc.out
      have hn16 : 0 < n ∧ n ≤ 16384 := by omega
      have hr0 : r = match insL m f 0 f.code with
        | some e => some e
        | none => match triesE f.code with
          | .inr (pc, e) => some ([(tAt, (pc : Int))], e)
          | .inl _ => none := by
        rw [← HR.out]
        unfold funE
        rw [if_neg (by have := HS.out; unfold sameNm at this; rw [this]; simp), if_neg (by rw [HN.out, Ha.out, Hs.out, Hc.out]; rintro (q | q | q | q | q); exact c1 q; exact c2 q; exact q rfl; exact q rfl; exact q rfl)]
        rfl
      have HR0 := hid hr0
      clear hr0 hcb HFAIL
      go_wp2_with (go_at_call 39; first | ((with_reducible refine (HA.out _).mono ?_); rintro e w' ⟨rfl, rfl⟩) | ((with_reducible refine (HSL.out _).mono ?_); rintro e w' ⟨rfl, rfl⟩) | (refine (HCD.out _).mono ?_; rintro e w' ⟨rfl, rfl⟩))
      clear n0 n1 n2 n3 hfbl
      go_loopw [79] (fun pv wx => ∃ pc : Nat, pc ≤ n ∧ pv = .int .i64 pc ∧ Hid (insL m f 0 f.code = insL m f pc (f.code.drop pc)) ∧ Hid (Sat W wx (blk fb (.cells #[.string f.nm, .int .i64 f.args, .int .i64 f.slots, .slice fca n fcc] 40 (0, 0)) :: blk v (.cells (vetc [.string nm, .slice la nl lc, .slice (some ⟨g, off, none⟩) nf fc] [.string f.nm, .int .i64 f.args, .int .i64 f.slots, .slice fca n fcc]) 72 (0, 0)) :: arch h :: L))) (fun pv _ => n - (intOf pv).toNat)
      case atStart => exact ⟨0, Nat.zero_le _, rfl, hid (by simp), S⟩
      case round =>
        obtain ⟨pc, hpc, rfl, HI, S2⟩ := hrel
        clear S
        have n3 : _ = some (Value.slice fca n fcc) := S2.out.cell 3
        by_cases hlt : pc < n
        · obtain ⟨x, hx⟩ : ∃ x, f.code[pc]? = some x := ⟨_, List.getElem?_eq_getElem (by rw [HN.out]; exact hlt)⟩
          have hxm := List.mem_of_getElem? hx
          have hdr : f.code.drop pc = x :: f.code.drop (pc + 1) := by
            obtain ⟨hh, hh2⟩ := List.getElem?_eq_some_iff.1 hx
            rw [List.drop_eq_getElem_cons hh, hh2]
          obtain ⟨cg, coff, rfl, k0⟩ := HRD.out (pc * 4 + 0) (.int .i64 x.op) (by rw [flat_get lenIn hx (by omega)]; rfl)
          obtain ⟨_, _, hg, k1⟩ := HRD.out (pc * 4 + 1) (.int .i64 x.a) (by rw [flat_get lenIn hx (by omega)]; rfl)
          cases hg
          obtain ⟨_, _, hg, k2⟩ := HRD.out (pc * 4 + 2) (.int .i64 x.b) (by rw [flat_get lenIn hx (by omega)]; rfl)
          cases hg
          obtain ⟨_, _, hg, k3⟩ := HRD.out (pc * 4 + 3) (.int .i64 x.c) (by rw [flat_get lenIn hx (by omega)]; rfl)
          cases hg
          have c0 := S2.out.drop.drop.cellIn k0
          have c1 := S2.out.drop.drop.cellIn k1
          have c2 := S2.out.drop.drop.cellIn k2
          have c3 := S2.out.drop.drop.cellIn k3
          rw [← Nat.add_assoc] at c0 c1 c2 c3
          rw [Nat.add_zero] at c0
          have hpl : ((pc : Nat) : Int) < (n : Int) := by omega
          obtain ⟨k, HK⟩ : ∃ k, Hid (insE m f x = k) := ⟨_, hid rfl⟩
          have HCI : Hid (∀ wx, Sat W wx (blk v (.cells (vetc [.string nm, .slice la nl lc, .slice (some ⟨g, off, none⟩) nf fc] [.string f.nm, .int .i64 f.args, .int .i64 f.slots, .slice (some ⟨cg, coff, none⟩) n fcc]) 72 (0, 0)) :: arch h :: blk fb (.cells #[.string f.nm, .int .i64 f.args, .int .i64 f.slots, .slice (some ⟨cg, coff, none⟩) n fcc] 40 (0, 0)) :: L) →
              Calls Tryd.prog 55 #[.pointer (some ⟨v, 0, none⟩), .agg #[.int .i64 x.op, .int .i64 x.a, .int .i64 x.b, .int .i64 x.c]] wx fun e w' => e = .returned (errV k) ∧ Sat W w' (blk fb (.cells #[.string f.nm, .int .i64 f.args, .int .i64 f.slots, .slice (some ⟨cg, coff, none⟩) n fcc] 40 (0, 0)) :: blk v (.cells (vetc [.string nm, .slice la nl lc, .slice (some ⟨g, off, none⟩) nf fc] [.string f.nm, .int .i64 f.args, .int .i64 f.slots, .slice (some ⟨cg, coff, none⟩) n fcc]) 72 (0, 0)) :: arch h :: L)) := by
            refine hid fun wx SX => ?_
            have h9 := ins_any SX m f H1.out H2.out HN.out rfl x (HFO.out.code x hxm) HIN.out (fun f hf => (HOK.out f hf).args) (fun e => HB.out f (List.mem_of_getElem? HF.out) x hxm e)
            rw [HK.out] at h9
            exact h9.mono fun e w' ⟨he, s⟩ => ⟨he, s.rot3⟩
          have S3 := hid ((S2.out.alloc' (.cells #[.int .i64 x.op, .int .i64 x.a, .int .i64 x.b, .int .i64 x.c] 36)).rot3.rot3)
          have HX := hid hx
          have hIL : insL m f pc (f.code.drop pc) = if k = 0 then insL m f (pc + 1) (f.code.drop (pc + 1)) else some ([(tAt, (pc : Int))], k) := by rw [hdr, insL, HK.out]
          have HIL := hid hIL
          clear hIL hdr hx k0 k1 k2 k3 hxm
          by_cases hk : k = 0
          · subst hk
            go_wp2_with fail
            refine (HCI.out _ S3.out).mono ?_
            rintro e w1 ⟨rfl, s1⟩
            have S4 := hid s1
            clear s1 S3 S2 n3
            simp only [errV, if_pos]
            go_wp2_with fail
            go_roundw
            case rel => exact ⟨pc + 1, by omega, by go_num, hid (by rw [HI.out, HIL.out]; rfl), S4⟩
            case measure => simp [intOf]; omega
          · have herr : errV k = .iface 49 (.int .i64 k) := by unfold errV; rw [if_neg hk]
            have HE := hid herr
            clear herr
            go_wp2_with fail
            refine (HCI.out _ S3.out).mono ?_
            rintro e w1 ⟨rfl, s1⟩
            have S4 := hid s1.rot3
            rw [HE.out]
            clear s1 S3 S2 n3
            go_wp2_with fail
            refine (at_ch S4.out tAt pc (c := some ([], k)) ⟨rfl, hk⟩).mono ?_
            rintro e w2 ⟨vv, h', rfl, l, q, s2⟩
            have S5 := hid s2
            have HQ := hid q
            have HL' := hid l
            clear s2 q l S4
            go_wp2_with fail
            go_ret
            refine ⟨_, h', _, fcc, rfl, HL'.out, ?_, by unfold fnVals; rw [HN.out]; exact S5.out.swap.drop.swap⟩
            rw [HR0.out, HI.out, HIL.out, if_neg hk]
            exact HQ.out
        · obtain rfl : pc = n := by omega
          have HT := hid (tries_any (ca := fca) (cc := fcc) S2.out.rot3 m f HN.out hn16 HRD.out HFO.out.code (fun x hx => ins_zero (insL_none (by rw [HI.out, List.drop_of_length_le (by rw [HN.out]; exact Nat.le_refl _)]; rfl) x hx)))
          go_wp2_with fail
          refine HT.out.mono ?_
          rintro e w1 ⟨v0, tp, tk, rfl, s1, ht⟩
          have S3 := hid s1
          have HTP := hid ht
          clear s1 ht HT S2 n3
          go_wp2_with fail
          refine (at_ch S3.out tAt tp (ch_err tk)).mono ?_
          rintro e w2 ⟨vv, h', rfl, l, q, s2⟩
          have S5 := hid s2
          have HQ := hid q
          have HL' := hid l
          clear s2 q l S3
          go_wp2_with fail
          go_ret
          refine ⟨_, h', _, fcc, rfl, HL'.out, ?_, by unfold fnVals; rw [HN.out]; exact S5.out.swap.drop.swap⟩
          rw [HR0.out, HI.out, List.drop_of_length_le (by rw [HN.out]; exact Nat.le_refl _), insL]
          have hc := tries_ch HTP.out (fun p e he => by unfold triesE at he; exact runT_kind he)
          have hq := HQ.out
          rw [hc] at hq
          exact hq
end
end Go.Proofs.YtohdhckafebmhaaDoor
