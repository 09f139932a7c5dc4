/-
  vet: the statements' one, awake; the text of an error.
-/
import Derived.Test.YtohdhckafebmhaaDoorVetE
import Derived.Test.YtohdhckafebmhaaDoorVetP
namespace Go.Proofs.YtohdhckafebmhaaDoor
open Go.RowKit
set_option maxHeartbeats 4000000
set_option maxRecDepth 100000

def tJump : ByteArray := ⟨#[106, 117, 109, 112]⟩
def tSep : ByteArray := ⟨#[58, 32]⟩
section
variable {W w : World} {L : List HP} {h : Nat → Option Obj}
theorem errno13 (S : Sat W w L) : Calls Tryd.prog 90 #[.int .i64 13] w fun e w' => e = .returned (.string tJump) ∧ Sat W w' L := by
  have S1 := hid S
  clear S
  go_enter Tryd.func90, Tryd.ntmps90
  go_wp2_with fail
  go_ret
  exact ⟨rfl, S1.out.alloc' _⟩
theorem fault_f {b : Nat} {op s : ByteArray} {n : Int} {t : TypeId} {x : Value} (S : Sat W w (arch h :: L)) (hb : h b = some (.cells #[.string op, .int .i64 n, .iface t x] 86 (0, 0)))
    (ho : op.size ≤ 1000) (hs : s.size ≤ 100000) (hm : ∀ wx, (method 304 t x "Error").run Tryd.prog wx = .ok (91, x) wx) (hin : ∀ (wx : World), Sat W wx (arch h :: L) → Calls Tryd.prog 91 #[x] wx fun e w' => e = .returned (.string s) ∧ Sat W w' (arch h :: L)) :
    Calls Tryd.prog 91 #[.pointer (some ⟨b, 0, none⟩)] w fun e w' => e = .returned (.string (op ++ tSep ++ s)) ∧ Sat W w' (arch h :: L) := by
  have c0 := S.archCell hb 0
  have c1 := S.archCell hb 1
  have c2 := S.archCell hb 2
  have ho2 : ¬ 9223372036854775807 < op.size + 2 := by omega
  have ho3 : ¬ 9223372036854775807 < op.size + 2 + s.size := by omega
  have HB := hid hb
  have HIN := hid hin
  have S1 := hid S.drew
  clear S hb hin
  simp only [List.getElem?_toArray, List.getElem?_cons_zero, List.getElem?_cons_succ] at c0 c1 c2
  go_enter Tryd.func91, Tryd.ntmps91
  go_wp2_with fail
  go_region_law (first
    | (go_simp
       go_at_call 91
       refine (HIN.out _ S1.out).mono ?_
       rintro e w1 ⟨rfl, s1⟩
       have S2 := hid s1
       have d0 := s1.archCell HB.out 0
       have d1 := s1.archCell HB.out 1
       have d2 := s1.archCell HB.out 2
       simp only [List.getElem?_toArray, List.getElem?_cons_zero, List.getElem?_cons_succ] at d0 d1 d2
       clear s1))
  all_goals go_wp2_with fail
  all_goals go_ret
  all_goals exact ⟨rfl, S2.out⟩
theorem fault_e {b : Nat} {op s : ByteArray} {n : Int} {t : TypeId} {x : Value} (S : Sat W w (arch h :: L)) (hb : h b = some (.cells #[.string op, .int .i64 n, .iface t x] 86 (0, 0)))
    (ho : op.size ≤ 1000) (hs : s.size ≤ 100000) (hm : ∀ wx, (method 304 t x "Error").run Tryd.prog wx = .ok (90, x) wx) (hin : ∀ (wx : World), Sat W wx (arch h :: L) → Calls Tryd.prog 90 #[x] wx fun e w' => e = .returned (.string s) ∧ Sat W w' (arch h :: L)) :
    Calls Tryd.prog 91 #[.pointer (some ⟨b, 0, none⟩)] w fun e w' => e = .returned (.string (op ++ tSep ++ s)) ∧ Sat W w' (arch h :: L) := by
  have c0 := S.archCell hb 0
  have c1 := S.archCell hb 1
  have c2 := S.archCell hb 2
  have ho2 : ¬ 9223372036854775807 < op.size + 2 := by omega
  have ho3 : ¬ 9223372036854775807 < op.size + 2 + s.size := by omega
  have HB := hid hb
  have HIN := hid hin
  have S1 := hid S.drew
  clear S hb hin
  simp only [List.getElem?_toArray, List.getElem?_cons_zero, List.getElem?_cons_succ] at c0 c1 c2
  go_enter Tryd.func91, Tryd.ntmps91
  go_wp2_with fail
  go_region_law (first
    | (go_simp
       go_at_call 90
       refine (HIN.out _ S1.out).mono ?_
       rintro e w1 ⟨rfl, s1⟩
       have S2 := hid s1
       have d0 := s1.archCell HB.out 0
       have d1 := s1.archCell HB.out 1
       have d2 := s1.archCell HB.out 2
       simp only [List.getElem?_toArray, List.getElem?_cons_zero, List.getElem?_cons_succ] at d0 d1 d2
       clear s1))
  all_goals go_wp2_with fail
  all_goals go_ret
  all_goals exact ⟨rfl, S2.out⟩
theorem met_f (a : Addr) (w : World) : (method 304 84 (.pointer (some a)) "Error").run Tryd.prog w = .ok (91, .pointer (some a)) w := by kernel_rfl
theorem met_e (n : Int) (w : World) : (method 304 49 (.int .i64 n) "Error").run Tryd.prog w = .ok (90, .int .i64 n) w := by kernel_rfl
/-- the text of the error of the document's example -/
theorem text_at (S : Sat W w (arch h :: L)) {b : Nat} (hv : ErrIn h (.iface 84 (.pointer (some ⟨b, 0, none⟩))) [(tMod, 0), (tFun, 0), (tAt, 0)] 13) :
    Calls Tryd.prog 91 #[.pointer (some ⟨b, 0, none⟩)] w fun e w' => e = .returned (.string (tMod ++ tSep ++ (tFun ++ tSep ++ (tAt ++ tSep ++ tJump)))) ∧ Sat W w' (arch h :: L) := by
  obtain ⟨b1, v1, e1, hb1, b2, v2, rfl, hb2, b3, v3, rfl, hb3, rfl⟩ := hv
  cases e1
  exact fault_f S hb1 (by decide) (by decide) (met_f _) fun wx s => fault_f s hb2 (by decide) (by decide) (met_f _) fun wy s2 =>
    fault_e s2 hb3 (by decide) (by decide) (met_e _) fun wz s3 => errno13 s3
theorem one_any (S : Sat W w (arch h :: L)) {ca : Option Addr} {n cc : Nat} (code : List In) (hl : code.length = n) (hr : RdIn h ca (code.flatMap InVals)) (hcc : n ≤ cc ∧ cc ≤ maxLen) :
    Calls Tryd.prog 17 #[.slice ca n cc] w fun e w' => ∃ fa h', e = .returned (.agg #[.string ⟨#[]⟩, .slice none 0 0, .slice fa 1 1]) ∧ Le h h' ∧ FsIn h' (oneM code).fs fa ∧ Sat W w' (arch h' :: L) := by
  have S1 := hid S
  have HL := hid hl
  have HR := hid hr
  have HC := hid hcc
  clear S hl hr hcc
  go_enter Tryd.func17, Tryd.ntmps17
  go_wp2_with fail
  obtain ⟨h', l, r, s3⟩ := store_lit ((S1.out.alloc' (.cells #[.string ⟨#[]⟩, .slice none 0 0, .slice (some ⟨w.heap.size + 1, 0, none⟩) 1 1] 25)).allocAt (k := w.heap.size + 1) (.cells #[.string ⟨#[102]⟩, .int .i64 0, .int .i64 0, .slice ca n cc] 40) (by simp))
  refine bodyPost_ret (v := .agg #[.string ⟨#[]⟩, .slice none 0 0, .slice (some ⟨w.heap.size + 1, 0, none⟩) 1 1]) (by simp [results, Tryd.results17, go_sem]) rfl ⟨_, h', rfl, l, ?_, s3⟩
  intro i f hf
  cases i with
  | succ i => simp [oneM] at hf
  | zero =>
    obtain rfl : (⟨tF, 0, 0, code⟩ : Fn) = f := by simpa [oneM] using hf
    refine ⟨w.heap.size + 1, 0, fnVals ⟨tF, 0, 0, code⟩ ca cc, rfl, fun j u hu => ?_, ca, cc, rfl, HR.out.mono l, by rw [HL.out]; exact HC.out.1, HC.out.2⟩
    unfold fnVals at hu
    rw [HL.out] at hu
    obtain ⟨g, off, e, hc⟩ := r j u hu
    cases e
    simpa using hc
instance (n : Int) : Decidable (fits n) := by unfold fits; infer_instance
theorem txt_jump : ((tMod ++ tSep ++ (tFun ++ tSep ++ (tAt ++ tSep ++ tJump))).toList == [109, 111, 100, 117, 108, 101, 58, 32, 102, 117, 110, 99, 116, 105, 111, 110, 58, 32, 97, 116, 58, 32, 106, 117, 109, 112]) = true := by decide +kernel
theorem noBif {code : List In} (h : ∀ x ∈ code, x.op ≠ 12) : BifM (oneM code) := by
  intro f hf x hx e
  obtain rfl : f = ⟨tF, 0, 0, code⟩ := by simpa [oneM] using hf
  exact absurd e (h x hx)
theorem oneOk {code : List In} (h : ∀ x ∈ code, InOk x) (hl : code.length ≤ 1000) : ∀ f ∈ (oneM code).fs, FnOk f := by
  intro f hf
  obtain rfl : f = ⟨tF, 0, 0, code⟩ := by simpa [oneM] using hf
  exact ⟨(by decide : fits 0), (by decide : fits 0), h, by show code.length ≤ _; omega, (by decide : tF.size ≤ 140737488351232)⟩
/-- vet.Module of a module of one function -/
theorem vet_one (S : Sat W w (arch h :: L)) {fa : Option Addr} (code : List In) (hin : FsIn h (oneM code).fs fa) (ho : ∀ x ∈ code, InOk x) (hl : code.length ≤ 1000) (hb : ∀ x ∈ code, x.op ≠ 12) :
    Calls Tryd.prog 12 #[.agg #[.string ⟨#[]⟩, .slice none 0 0, .slice fa 1 1]] w (ModP W L h (vetE (oneM code))) :=
  vet_any (fc := 1) (lc := 0) (la := none) S (oneM code) (by show 1 ≤ _; omega) (by show 0 ≤ _; omega) ⟨Nat.le_refl 1, by decide⟩ (LIn.nil _ _) (by simp [oneM, LOk]) hin (oneOk ho hl) (noBif hb)
theorem vet_jump : vetE (oneM [⟨4, 5, 0, 0⟩]) = some ([(tMod, 0), (tFun, 0), (tAt, 0)], 13) := by decide +kernel
theorem vet_ret : vetE (oneM [⟨15, 0, 0, 0⟩]) = none := by decide +kernel
def AwP (W : World) (L : List HP) (h : Nat → Option Obj) (e : Ending) (w' : World) : Prop := ∃ h', e = .returned (.bool true) ∧ Le h h' ∧ Sat W w' (arch h' :: L)
theorem awake10 (S : Sat W w (arch h :: L)) : Calls Tryd.prog 15 #[] w (AwP W L h) := by
  have s1 := S.alloc (.cells #[.int .i64 4, .int .i64 5, .int .i64 0, .int .i64 0] 36)
  obtain ⟨h1, l1, r1, s2⟩ := store_lit s1
  have HO := hid (one_any s2 [⟨4, 5, 0, 0⟩] rfl r1 ⟨Nat.le_refl 1, by decide⟩)
  have L1 := hid l1
  clear S s1 l1 r1 s2
  go_enter Tryd.func15, Tryd.ntmps15
  go_wp2_with fail
  refine HO.out.mono ?_
  rintro e w1 ⟨fa, h2, rfl, l2, q2, s2⟩
  have L2 := hid (L1.out.trans l2)
  have HM := hid (vet_one s2 _ q2 (by intro x hx; simp at hx; subst hx; exact ⟨by decide, by decide, by decide, by decide⟩) (by decide) (by intro x hx; simp at hx; subst hx; decide))
  rw [vet_jump] at HM
  clear HO L1 l2 q2 s2
  go_wp2_with fail
  refine HM.out.mono ?_
  rintro e w2 ⟨vv, h3, rfl, l3, q3, s3⟩
  have L3 := hid (L2.out.trans l3)
  obtain ⟨q4, _⟩ : ErrIn h3 vv [(tMod, 0), (tFun, 0), (tAt, 0)] 13 ∧ (13 : Int) ≠ 0 := q3
  obtain ⟨b, v1, rfl, _⟩ := id q4
  have Q := hid q4
  obtain ⟨h4, l4, r4, s4⟩ := store_lit (s3.alloc (.cells #[.int .i64 15, .int .i64 0, .int .i64 0, .int .i64 0] 36))
  have HO := hid (one_any s4 [⟨15, 0, 0, 0⟩] rfl r4 ⟨Nat.le_refl 1, by decide⟩)
  have L4 := hid (L3.out.trans l4)
  have Q4 := hid (Q.out.mono l4)
  clear HM L2 l3 s3 q4 Q L3 l4 r4 s4
  go_wp2_with fail
  refine HO.out.mono ?_
  rintro e w3 ⟨fa2, h5, rfl, l5, q5, s5⟩
  have L5 := hid (L4.out.trans l5)
  have Q5 := hid (Q4.out.mono l5)
  have HM := hid (vet_one s5 _ q5 (by intro x hx; simp at hx; subst hx; exact ⟨by decide, by decide, by decide, by decide⟩) (by decide) (by intro x hx; simp at hx; subst hx; decide))
  rw [vet_ret] at HM
  clear HO L4 l5 q5 s5 Q4
  go_wp2_with fail
  refine HM.out.mono ?_
  rintro e w4 ⟨vv, h6, rfl, l6, q6, s6⟩
  obtain rfl : vv = .nilIface := q6
  have L6 := hid (L5.out.trans l6)
  have HT := hid (text_at s6 (Q5.out.mono l6))
  clear HM L5 l6 s6 Q5
  go_wp2_with fail
  refine HT.out.mono ?_
  rintro e w5 ⟨rfl, s7⟩
  have S7 := hid s7
  clear HT s7
  go_wp2_with fail
  go_ret
  exact ⟨h6, congrArg (fun b => Ending.returned (.bool b)) txt_jump, L6.out, S7.out⟩
#print axioms awake10
end
end Go.Proofs.YtohdhckafebmhaaDoor
