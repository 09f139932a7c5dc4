/-
  The document's texts (trouperef02): Text, Write.
-/
import Derived.Test.YteaabbghnfideaaDoorDocD
import Derived.Test.YteaabbghnfideaaDoorLawTR
namespace Go.Proofs.YteaabbghnfideaaDoor
open Go.RowKit
set_option maxHeartbeats 4000000
set_option maxRecDepth 100000

/-- what the document's Write answers -/
def WXOf (h : Nat → Option Obj) (t : T) (s : ByteArray) (x : Option Addr) : Prop := match rightOf t with
  | none => x = none ∧ byts s = txt t
  | some (n, k) => s = ByteArray.empty ∧ XIn h x [(tWrite, 0), (tTerm, n)] k
theorem txt_short {t : T} (hok : TOk t) (hr : rightOf t = none) : (txt t).length ≤ 140737488355328 := by
  have h1 := txt_len t hok (right_fl hr)
  have h2 := right_sz hr
  omega
section
variable {W w : World} {L : List HP} {h : Nat → Option Obj}
theorem text_any (S : Sat W w (arch h :: L)) (t : T) (vs : List Value) (hin : TIn h t vs) (hok : TOk t) (hr : rightOf t = none) :
    Calls Tryd.prog 42 #[.agg vs.toArray] w fun e w' => ∃ q, e = .returned (.string q) ∧ byts q = txt t ∧ Sat W w' (arch h :: L) := by
  obtain ⟨ia, ic, ra, rc, ba, bc, rfl, _⟩ := id hin.vals
  have s1 := (S.alloc (.cells (tVals t ia ic ra rc ba bc).toArray 25)).swap
  have s2 : Sat W _ (row 5 1 none 0 0 (u8s []) :: arch h :: _) := s1.rowNil
  have HP := hid (put_t t hok (right_fl hr) W _ _ h _ none 0 0 [] s2 hin (by have := txt_short hok hr; simpa using this))
  have S2 := hid s2
  unfold tVals at HP S2 ⊢
  have c0 := S2.out.rot3.cell 0
  have c1 := S2.out.rot3.cell 1
  have c2 := S2.out.rot3.cell 2
  have c3 := S2.out.rot3.cell 3
  have c4 := S2.out.rot3.cell 4
  have c5 := S2.out.rot3.cell 5
  simp only [List.getElem?_toArray, List.getElem?_cons_zero, List.getElem?_cons_succ] at c0 c1 c2 c3 c4 c5
  clear S hin hok hr s1 s2
  go_enter Tryd.func42, Tryd.ntmps42
  go_wp2_with fail
  refine HP.out.mono ?_
  rintro e w3 ⟨a, n, c, rfl, s3⟩
  rw [List.nil_append] at s3
  have S3 := hid s3
  have hl := rowN s3
  have v1 := fun dst hd => conv_rd (P := Tryd.prog) (src := 23) (dst := dst) (c := c) Tryd.underlying23 Tryd.underlying5 hd (n := n) hl.symm s3.rowRd
  clear s3 hl HP S2 c0 c1 c2 c3 c4 c5
  go_wp2_with fail
  go_ret
  exact ⟨_, rfl, strOf_byts _ (txt_in t), S3.out.drop.swap.drop⟩
theorem xwrite_any (S : Sat W w (arch h :: L)) (t : T) (vs : List Value) (hin : TIn h t vs) (hok : TOk t) :
    Calls Tryd.prog 20 #[.agg vs.toArray] w fun e w' => ∃ s x h', e = .returned (.tuple #[.string s, .pointer x]) ∧ Le h h' ∧ WXOf h' t s x ∧ Sat W w' (arch h' :: L) := by
  obtain ⟨ia, ic, ra, rc, ba, bc, rfl, _⟩ := id hin.vals
  have S1 := hid (S.allocAt (k := w.heap.size) (.cells (tVals t ia ic ra rc ba bc).toArray 25) rfl).swap
  have HX := hid (xright_t S1.out t _ hin hok)
  have HIN := hid hin
  have HOK := hid hok
  have c0 := S1.out.swap.cell 0
  have c1 := S1.out.swap.cell 1
  have c2 := S1.out.swap.cell 2
  have c3 := S1.out.swap.cell 3
  have c4 := S1.out.swap.cell 4
  have c5 := S1.out.swap.cell 5
  unfold tVals at HX S1 HIN c0 c1 c2 c3 c4 c5 ⊢
  simp only [List.getElem?_toArray, List.getElem?_cons_zero, List.getElem?_cons_succ] at c0 c1 c2 c3 c4 c5
  clear S hin hok
  go_enter Tryd.func20, Tryd.ntmps20
  go_wp2_with fail
  refine HX.out.mono ?_
  rintro e w2 ⟨x, h2, rfl, l2, hx, s2⟩
  clear HX S1 c0 c1 c2 c3 c4 c5
  cases hr : rightOf t with
  | none =>
    rw [hr] at hx
    have hx : x = none := hx
    subst hx
    have HT := hid (text_any s2 t _ (TIn.mono l2 t HIN.out) HOK.out hr)
    have HL := hid l2
    have c0 := s2.swap.cell 0
    have c1 := s2.swap.cell 1
    have c2 := s2.swap.cell 2
    have c3 := s2.swap.cell 3
    have c4 := s2.swap.cell 4
    have c5 := s2.swap.cell 5
    simp only [List.getElem?_toArray, List.getElem?_cons_zero, List.getElem?_cons_succ] at c0 c1 c2 c3 c4 c5
    have HR := hid hr
    clear s2 l2 hr
    go_wp2_with fail
    refine HT.out.mono ?_
    rintro e w3 ⟨q, rfl, hq, s3⟩
    have S3 := hid s3
    have HQ := hid hq
    clear s3 HT c0 c1 c2 c3 c4 c5 hq
    go_wp2_with fail
    go_ret2
    exact ⟨q, none, h2, rfl, HL.out, by unfold WXOf; rw [HR.out]; exact ⟨rfl, HQ.out⟩, S3.out.swap.drop⟩
  | some nk =>
    obtain ⟨n, k⟩ := nk
    rw [hr] at hx
    have hx : XIn h2 x [(tTerm, n)] k := hx
    obtain ⟨xb, hxb⟩ := hx.some
    have HF := hid (f_any s2 tWrite 0 hx)
    subst hxb
    have HL := hid l2
    unfold tWrite at HF
    have HR := hid hr
    clear s2 l2 hr hx
    go_wp2_with fail
    refine HF.out.mono ?_
    rintro e w3 ⟨p, h3, rfl, l3, x3, s3⟩
    have S3 := hid s3
    have HX3 := hid x3
    have HL3 := hid (HL.out.trans l3)
    clear s3 HF x3 l3
    go_wp2_with fail
    go_ret2
    exact ⟨ByteArray.empty, p, h3, rfl, HL3.out, by unfold WXOf; rw [HR.out]; exact ⟨rfl, HX3.out⟩, S3.out.swap.drop⟩
end
#print axioms xwrite_any
end Go.Proofs.YteaabbghnfideaaDoor
